/- Lemmas for the proof, no conditions of their own. -/
import Derived.Test.YtonnkpclllmkoaaGreatQC2
import Derived.Test.YtonnkpclllmkoaaGreatProg
import Derived.KernelRfl
set_option linter.unusedVariables false
set_option linter.unusedSimpArgs false
set_option maxRecDepth 100000
namespace Go.Proofs.YtonnkpclllmkoaaGreat.Eng
open Go Go.RowKit
def t_1 : TyD := { und := TypeDesc.func #[] #[] false, size := 1, bytes := 8, zero := [Value.nilFunc], fl := false }
theorem i_1 : TabE Tryz.prog (1, t_1, false) := ⟨by kernel_rfl, fun h => by simp at h⟩
def t_2 : TyD := { und := TypeDesc.int IntKind.i64, size := 1, bytes := 8, zero := [Value.int IntKind.i64 0], fl := true }
theorem i_2 : TabE Tryz.prog (2, t_2, false) := ⟨by kernel_rfl, fun h => by simp at h⟩
def t_3 : TyD := { und := TypeDesc.int IntKind.i64, size := 1, bytes := 8, zero := [Value.int IntKind.i64 0], fl := true }
theorem i_3 : TabE Tryz.prog (3, t_3, false) := ⟨by kernel_rfl, fun h => by simp at h⟩
def t_4 : TyD := { und := TypeDesc.bool, size := 1, bytes := 1, zero := [Value.bool false], fl := true }
theorem i_4 : TabE Tryz.prog (4, t_4, false) := ⟨by kernel_rfl, fun h => by simp at h⟩
def t_5 : TyD := { und := TypeDesc.int IntKind.u8, size := 1, bytes := 1, zero := [Value.int IntKind.u8 0], fl := true }
theorem i_5 : TabE Tryz.prog (5, t_5, false) := ⟨by kernel_rfl, fun h => by simp at h⟩
def t_6 : TyD := { und := TypeDesc.int IntKind.u8, size := 1, bytes := 1, zero := [Value.int IntKind.u8 0], fl := true }
theorem i_6 : TabE Tryz.prog (6, t_6, false) := ⟨by kernel_rfl, fun h => by simp at h⟩
def t_7 : TyD := { und := TypeDesc.struct #[{ name := "x", type := 2, offset := 0, embedded := false, tag := "", pkgPath := "runtime", byteOffset := 0 }, { name := "y", type := 3, offset := 1, embedded := false, tag := "", pkgPath := "runtime", byteOffset := 8 }, { name := "signed", type := 4, offset := 2, embedded := false, tag := "", pkgPath := "runtime", byteOffset := 16 }, { name := "code", type := 6, offset := 3, embedded := false, tag := "", pkgPath := "runtime", byteOffset := 17 }], size := 4, bytes := 24, zero := [Value.int IntKind.i64 0, Value.int IntKind.i64 0, Value.bool false, Value.int IntKind.u8 0], fl := true }
theorem i_7 : TabE Tryz.prog (7, t_7, true) := ⟨by kernel_rfl, fun _ => by kernel_rfl⟩
def t_8 : TyD := { und := TypeDesc.struct #[{ name := "x", type := 2, offset := 0, embedded := false, tag := "", pkgPath := "runtime", byteOffset := 0 }, { name := "y", type := 3, offset := 1, embedded := false, tag := "", pkgPath := "runtime", byteOffset := 8 }, { name := "signed", type := 4, offset := 2, embedded := false, tag := "", pkgPath := "runtime", byteOffset := 16 }, { name := "code", type := 6, offset := 3, embedded := false, tag := "", pkgPath := "runtime", byteOffset := 17 }], size := 4, bytes := 24, zero := [Value.int IntKind.i64 0, Value.int IntKind.i64 0, Value.bool false, Value.int IntKind.u8 0], fl := true }
theorem i_8 : TabE Tryz.prog (8, t_8, true) := ⟨by kernel_rfl, fun _ => by kernel_rfl⟩
def t_9 : TyD := { und := TypeDesc.string, size := 1, bytes := 16, zero := [Value.string ⟨#[]⟩], fl := true }
theorem i_9 : TabE Tryz.prog (9, t_9, false) := ⟨by kernel_rfl, fun h => by simp at h⟩
def t_10 : TyD := { und := TypeDesc.string, size := 1, bytes := 16, zero := [Value.string ⟨#[]⟩], fl := true }
theorem i_10 : TabE Tryz.prog (10, t_10, false) := ⟨by kernel_rfl, fun h => by simp at h⟩
def t_11 : TyD := { und := TypeDesc.string, size := 1, bytes := 16, zero := [Value.string ⟨#[]⟩], fl := true }
theorem i_11 : TabE Tryz.prog (11, t_11, false) := ⟨by kernel_rfl, fun h => by simp at h⟩
def t_12 : TyD := { und := TypeDesc.int IntKind.u64, size := 1, bytes := 8, zero := [Value.int IntKind.u64 0], fl := true }
theorem i_12 : TabE Tryz.prog (12, t_12, false) := ⟨by kernel_rfl, fun h => by simp at h⟩
def t_13 : TyD := { und := TypeDesc.struct #[{ name := "msg", type := 9, offset := 0, embedded := false, tag := "", pkgPath := "runtime", byteOffset := 0 }, { name := "addr", type := 12, offset := 1, embedded := false, tag := "", pkgPath := "runtime", byteOffset := 16 }], size := 2, bytes := 24, zero := [Value.string ⟨#[]⟩, Value.int IntKind.u64 0], fl := true }
theorem i_13 : TabE Tryz.prog (13, t_13, false) := ⟨by kernel_rfl, fun h => by simp at h⟩
def t_14 : TyD := { und := TypeDesc.struct #[{ name := "msg", type := 9, offset := 0, embedded := false, tag := "", pkgPath := "runtime", byteOffset := 0 }, { name := "addr", type := 12, offset := 1, embedded := false, tag := "", pkgPath := "runtime", byteOffset := 16 }], size := 2, bytes := 24, zero := [Value.string ⟨#[]⟩, Value.int IntKind.u64 0], fl := true }
theorem i_14 : TabE Tryz.prog (14, t_14, false) := ⟨by kernel_rfl, fun h => by simp at h⟩
def t_15 : TyD := { und := TypeDesc.pointer 242, size := 1, bytes := 8, zero := [Value.pointer none], fl := false }
theorem i_15 : TabE Tryz.prog (15, t_15, false) := ⟨by kernel_rfl, fun h => by simp at h⟩
def t_16 : TyD := { und := TypeDesc.pointer 245, size := 1, bytes := 8, zero := [Value.pointer none], fl := false }
theorem i_16 : TabE Tryz.prog (16, t_16, false) := ⟨by kernel_rfl, fun h => by simp at h⟩
def t_17 : TyD := { und := TypeDesc.pointer 255, size := 1, bytes := 8, zero := [Value.pointer none], fl := false }
theorem i_17 : TabE Tryz.prog (17, t_17, false) := ⟨by kernel_rfl, fun h => by simp at h⟩
def t_18 : TyD := { und := TypeDesc.struct #[{ name := "typ", type := 17, offset := 0, embedded := false, tag := "", pkgPath := "internal/runtime/maps", byteOffset := 0 }], size := 1, bytes := 8, zero := [Value.pointer none], fl := false }
theorem i_18 : TabE Tryz.prog (18, t_18, false) := ⟨by kernel_rfl, fun h => by simp at h⟩
def t_19 : TyD := { und := TypeDesc.struct #[{ name := "typ", type := 17, offset := 0, embedded := false, tag := "", pkgPath := "internal/runtime/maps", byteOffset := 0 }], size := 1, bytes := 8, zero := [Value.pointer none], fl := false }
theorem i_19 : TabE Tryz.prog (19, t_19, false) := ⟨by kernel_rfl, fun h => by simp at h⟩
def t_21 : TyD := { und := TypeDesc.int IntKind.i32, size := 1, bytes := 4, zero := [Value.int IntKind.i32 0], fl := true }
theorem i_21 : TabE Tryz.prog (21, t_21, false) := ⟨by kernel_rfl, fun h => by simp at h⟩
def t_22 : TyD := { und := TypeDesc.slice 5, size := 1, bytes := 24, zero := [Value.slice none 0 0], fl := false }
theorem i_22 : TabE Tryz.prog (22, t_22, false) := ⟨by kernel_rfl, fun h => by simp at h⟩
def t_23 : TyD := { und := TypeDesc.func #[22, 22] #[4] false, size := 1, bytes := 8, zero := [Value.nilFunc], fl := false }
theorem i_23 : TabE Tryz.prog (23, t_23, false) := ⟨by kernel_rfl, fun h => by simp at h⟩
def t_24 : TyD := { und := TypeDesc.slice 32, size := 1, bytes := 24, zero := [Value.slice none 0 0], fl := false }
theorem i_24 : TabE Tryz.prog (24, t_24, false) := ⟨by kernel_rfl, fun h => by simp at h⟩
def t_25 : TyD := { und := TypeDesc.func #[22] #[24] false, size := 1, bytes := 8, zero := [Value.nilFunc], fl := false }
theorem i_25 : TabE Tryz.prog (25, t_25, false) := ⟨by kernel_rfl, fun h => by simp at h⟩
def t_26 : TyD := { und := TypeDesc.func #[22, 2, 2] #[2] false, size := 1, bytes := 8, zero := [Value.nilFunc], fl := false }
theorem i_26 : TabE Tryz.prog (26, t_26, false) := ⟨by kernel_rfl, fun h => by simp at h⟩
def t_27 : TyD := { und := TypeDesc.struct #[{ name := "P", type := 2, offset := 0, embedded := false, tag := "", pkgPath := "", byteOffset := 0 }, { name := "Q", type := 2, offset := 1, embedded := false, tag := "", pkgPath := "", byteOffset := 8 }], size := 2, bytes := 16, zero := [Value.int IntKind.i64 0, Value.int IntKind.i64 0], fl := true }
theorem i_27 : TabE Tryz.prog (27, t_27, true) := ⟨by kernel_rfl, fun _ => by kernel_rfl⟩
def t_28 : TyD := { und := TypeDesc.struct #[{ name := "P", type := 2, offset := 0, embedded := false, tag := "", pkgPath := "", byteOffset := 0 }, { name := "Q", type := 2, offset := 1, embedded := false, tag := "", pkgPath := "", byteOffset := 8 }], size := 2, bytes := 16, zero := [Value.int IntKind.i64 0, Value.int IntKind.i64 0], fl := true }
theorem i_28 : TabE Tryz.prog (28, t_28, true) := ⟨by kernel_rfl, fun _ => by kernel_rfl⟩
def t_29 : TyD := { und := TypeDesc.struct #[{ name := "Low", type := 28, offset := 0, embedded := false, tag := "", pkgPath := "", byteOffset := 0 }, { name := "High", type := 28, offset := 2, embedded := false, tag := "", pkgPath := "", byteOffset := 16 }], size := 4, bytes := 32, zero := [Value.int IntKind.i64 0, Value.int IntKind.i64 0, Value.int IntKind.i64 0, Value.int IntKind.i64 0], fl := true }
theorem i_29 : TabE Tryz.prog (29, t_29, true) := ⟨by kernel_rfl, fun _ => by kernel_rfl⟩
def t_30 : TyD := { und := TypeDesc.struct #[{ name := "Low", type := 28, offset := 0, embedded := false, tag := "", pkgPath := "", byteOffset := 0 }, { name := "High", type := 28, offset := 2, embedded := false, tag := "", pkgPath := "", byteOffset := 16 }], size := 4, bytes := 32, zero := [Value.int IntKind.i64 0, Value.int IntKind.i64 0, Value.int IntKind.i64 0, Value.int IntKind.i64 0], fl := true }
theorem i_30 : TabE Tryz.prog (30, t_30, true) := ⟨by kernel_rfl, fun _ => by kernel_rfl⟩
def t_31 : TyD := { und := TypeDesc.struct #[{ name := "Name", type := 9, offset := 0, embedded := false, tag := "", pkgPath := "", byteOffset := 0 }, { name := "From", type := 2, offset := 1, embedded := false, tag := "", pkgPath := "", byteOffset := 16 }, { name := "Value", type := 30, offset := 2, embedded := false, tag := "", pkgPath := "", byteOffset := 24 }, { name := "Drift", type := 28, offset := 6, embedded := false, tag := "", pkgPath := "", byteOffset := 56 }, { name := "Made", type := 2, offset := 8, embedded := false, tag := "", pkgPath := "", byteOffset := 72 }, { name := "Good", type := 2, offset := 9, embedded := false, tag := "", pkgPath := "", byteOffset := 80 }], size := 10, bytes := 88, zero := [Value.string ⟨#[]⟩, Value.int IntKind.i64 0, Value.int IntKind.i64 0, Value.int IntKind.i64 0, Value.int IntKind.i64 0, Value.int IntKind.i64 0, Value.int IntKind.i64 0, Value.int IntKind.i64 0, Value.int IntKind.i64 0, Value.int IntKind.i64 0], fl := true }
theorem i_31 : TabE Tryz.prog (31, t_31, true) := ⟨by kernel_rfl, fun _ => by kernel_rfl⟩
def t_32 : TyD := { und := TypeDesc.struct #[{ name := "Name", type := 9, offset := 0, embedded := false, tag := "", pkgPath := "", byteOffset := 0 }, { name := "From", type := 2, offset := 1, embedded := false, tag := "", pkgPath := "", byteOffset := 16 }, { name := "Value", type := 30, offset := 2, embedded := false, tag := "", pkgPath := "", byteOffset := 24 }, { name := "Drift", type := 28, offset := 6, embedded := false, tag := "", pkgPath := "", byteOffset := 56 }, { name := "Made", type := 2, offset := 8, embedded := false, tag := "", pkgPath := "", byteOffset := 72 }, { name := "Good", type := 2, offset := 9, embedded := false, tag := "", pkgPath := "", byteOffset := 80 }], size := 10, bytes := 88, zero := [Value.string ⟨#[]⟩, Value.int IntKind.i64 0, Value.int IntKind.i64 0, Value.int IntKind.i64 0, Value.int IntKind.i64 0, Value.int IntKind.i64 0, Value.int IntKind.i64 0, Value.int IntKind.i64 0, Value.int IntKind.i64 0, Value.int IntKind.i64 0], fl := true }
theorem i_32 : TabE Tryz.prog (32, t_32, true) := ⟨by kernel_rfl, fun _ => by kernel_rfl⟩
def t_34 : TyD := { und := TypeDesc.func #[24, 32] #[24, 2] false, size := 1, bytes := 8, zero := [Value.nilFunc], fl := false }
theorem i_34 : TabE Tryz.prog (34, t_34, false) := ⟨by kernel_rfl, fun h => by simp at h⟩
def t_35 : TyD := { und := TypeDesc.func #[24, 24] #[4] false, size := 1, bytes := 8, zero := [Value.nilFunc], fl := false }
theorem i_35 : TabE Tryz.prog (35, t_35, false) := ⟨by kernel_rfl, fun h => by simp at h⟩
def t_37 : TyD := { und := TypeDesc.func #[24, 2, 2] #[30, 2] false, size := 1, bytes := 8, zero := [Value.nilFunc], fl := false }
theorem i_37 : TabE Tryz.prog (37, t_37, false) := ⟨by kernel_rfl, fun h => by simp at h⟩
def t_38 : TyD := { und := TypeDesc.func #[30, 30] #[30, 2] false, size := 1, bytes := 8, zero := [Value.nilFunc], fl := false }
theorem i_38 : TabE Tryz.prog (38, t_38, false) := ⟨by kernel_rfl, fun h => by simp at h⟩
def t_40 : TyD := { und := TypeDesc.func #[24, 2, 2] #[2, 28, 2] false, size := 1, bytes := 8, zero := [Value.nilFunc], fl := false }
theorem i_40 : TabE Tryz.prog (40, t_40, false) := ⟨by kernel_rfl, fun h => by simp at h⟩
def t_41 : TyD := { und := TypeDesc.slice 2, size := 1, bytes := 24, zero := [Value.slice none 0 0], fl := false }
theorem i_41 : TabE Tryz.prog (41, t_41, false) := ⟨by kernel_rfl, fun h => by simp at h⟩
def t_43 : TyD := { und := TypeDesc.func #[24, 2] #[41, 2] false, size := 1, bytes := 8, zero := [Value.nilFunc], fl := false }
theorem i_43 : TabE Tryz.prog (43, t_43, false) := ⟨by kernel_rfl, fun h => by simp at h⟩
def t_44 : TyD := { und := TypeDesc.func #[41, 2] #[4] false, size := 1, bytes := 8, zero := [Value.nilFunc], fl := false }
theorem i_44 : TabE Tryz.prog (44, t_44, false) := ⟨by kernel_rfl, fun h => by simp at h⟩
def t_46 : TyD := { und := TypeDesc.func #[30] #[28, 2] false, size := 1, bytes := 8, zero := [Value.nilFunc], fl := false }
theorem i_46 : TabE Tryz.prog (46, t_46, false) := ⟨by kernel_rfl, fun h => by simp at h⟩
def t_48 : TyD := { und := TypeDesc.func #[28, 28] #[2, 2] false, size := 1, bytes := 8, zero := [Value.nilFunc], fl := false }
theorem i_48 : TabE Tryz.prog (48, t_48, false) := ⟨by kernel_rfl, fun h => by simp at h⟩
def t_50 : TyD := { und := TypeDesc.func #[24, 2] #[2, 30, 2] false, size := 1, bytes := 8, zero := [Value.nilFunc], fl := false }
theorem i_50 : TabE Tryz.prog (50, t_50, false) := ⟨by kernel_rfl, fun h => by simp at h⟩
def t_51 : TyD := { und := TypeDesc.func #[24, 2, 2, 30] #[30, 2] false, size := 1, bytes := 8, zero := [Value.nilFunc], fl := false }
theorem i_51 : TabE Tryz.prog (51, t_51, false) := ⟨by kernel_rfl, fun h => by simp at h⟩
def t_52 : TyD := { und := TypeDesc.func #[24, 2, 2, 30, 2] #[24, 2] false, size := 1, bytes := 8, zero := [Value.nilFunc], fl := false }
theorem i_52 : TabE Tryz.prog (52, t_52, false) := ⟨by kernel_rfl, fun h => by simp at h⟩
def t_53 : TyD := { und := TypeDesc.struct #[{ name := "P", type := 2, offset := 0, embedded := false, tag := "", pkgPath := "", byteOffset := 0 }, { name := "Q", type := 2, offset := 1, embedded := false, tag := "", pkgPath := "", byteOffset := 8 }], size := 2, bytes := 16, zero := [Value.int IntKind.i64 0, Value.int IntKind.i64 0], fl := true }
theorem i_53 : TabE Tryz.prog (53, t_53, true) := ⟨by kernel_rfl, fun _ => by kernel_rfl⟩
def t_54 : TyD := { und := TypeDesc.slice 53, size := 1, bytes := 24, zero := [Value.slice none 0 0], fl := false }
theorem i_54 : TabE Tryz.prog (54, t_54, false) := ⟨by kernel_rfl, fun h => by simp at h⟩
def t_55 : TyD := { und := TypeDesc.struct #[{ name := "Unit", type := 53, offset := 0, embedded := false, tag := "", pkgPath := "", byteOffset := 0 }, { name := "Errors", type := 54, offset := 2, embedded := false, tag := "", pkgPath := "", byteOffset := 16 }], size := 3, bytes := 40, zero := [Value.int IntKind.i64 0, Value.int IntKind.i64 0, Value.slice none 0 0], fl := false }
theorem i_55 : TabE Tryz.prog (55, t_55, true) := ⟨by kernel_rfl, fun _ => by kernel_rfl⟩
def t_56 : TyD := { und := TypeDesc.struct #[{ name := "Unit", type := 53, offset := 0, embedded := false, tag := "", pkgPath := "", byteOffset := 0 }, { name := "Errors", type := 54, offset := 2, embedded := false, tag := "", pkgPath := "", byteOffset := 16 }], size := 3, bytes := 40, zero := [Value.int IntKind.i64 0, Value.int IntKind.i64 0, Value.slice none 0 0], fl := false }
theorem i_56 : TabE Tryz.prog (56, t_56, true) := ⟨by kernel_rfl, fun _ => by kernel_rfl⟩
def t_57 : TyD := { und := TypeDesc.struct #[{ name := "Parts", type := 2, offset := 0, embedded := false, tag := "", pkgPath := "", byteOffset := 0 }, { name := "Back", type := 4, offset := 1, embedded := false, tag := "", pkgPath := "", byteOffset := 8 }], size := 2, bytes := 16, zero := [Value.int IntKind.i64 0, Value.bool false], fl := true }
theorem i_57 : TabE Tryz.prog (57, t_57, true) := ⟨by kernel_rfl, fun _ => by kernel_rfl⟩
def t_58 : TyD := { und := TypeDesc.struct #[{ name := "Parts", type := 2, offset := 0, embedded := false, tag := "", pkgPath := "", byteOffset := 0 }, { name := "Back", type := 4, offset := 1, embedded := false, tag := "", pkgPath := "", byteOffset := 8 }], size := 2, bytes := 16, zero := [Value.int IntKind.i64 0, Value.bool false], fl := true }
theorem i_58 : TabE Tryz.prog (58, t_58, true) := ⟨by kernel_rfl, fun _ => by kernel_rfl⟩
def t_59 : TyD := { und := TypeDesc.slice 168, size := 1, bytes := 24, zero := [Value.slice none 0 0], fl := false }
theorem i_59 : TabE Tryz.prog (59, t_59, false) := ⟨by kernel_rfl, fun h => by simp at h⟩
def t_60 : TyD := { und := TypeDesc.struct #[{ name := "Scale", type := 56, offset := 0, embedded := false, tag := "", pkgPath := "", byteOffset := 0 }, { name := "Vernier", type := 58, offset := 3, embedded := false, tag := "", pkgPath := "", byteOffset := 40 }, { name := "Grows", type := 53, offset := 5, embedded := false, tag := "", pkgPath := "", byteOffset := 56 }, { name := "Things", type := 59, offset := 7, embedded := false, tag := "", pkgPath := "", byteOffset := 72 }], size := 8, bytes := 96, zero := [Value.int IntKind.i64 0, Value.int IntKind.i64 0, Value.slice none 0 0, Value.int IntKind.i64 0, Value.bool false, Value.int IntKind.i64 0, Value.int IntKind.i64 0, Value.slice none 0 0], fl := false }
theorem i_60 : TabE Tryz.prog (60, t_60, true) := ⟨by kernel_rfl, fun _ => by kernel_rfl⟩
def t_61 : TyD := { und := TypeDesc.struct #[{ name := "Scale", type := 56, offset := 0, embedded := false, tag := "", pkgPath := "", byteOffset := 0 }, { name := "Vernier", type := 58, offset := 3, embedded := false, tag := "", pkgPath := "", byteOffset := 40 }, { name := "Grows", type := 53, offset := 5, embedded := false, tag := "", pkgPath := "", byteOffset := 56 }, { name := "Things", type := 59, offset := 7, embedded := false, tag := "", pkgPath := "", byteOffset := 72 }], size := 8, bytes := 96, zero := [Value.int IntKind.i64 0, Value.int IntKind.i64 0, Value.slice none 0 0, Value.int IntKind.i64 0, Value.bool false, Value.int IntKind.i64 0, Value.int IntKind.i64 0, Value.slice none 0 0], fl := false }
theorem i_61 : TabE Tryz.prog (61, t_61, true) := ⟨by kernel_rfl, fun _ => by kernel_rfl⟩
def t_62 : TyD := { und := TypeDesc.struct #[{ name := "Thing", type := 2, offset := 0, embedded := false, tag := "", pkgPath := "", byteOffset := 0 }, { name := "Warm", type := 53, offset := 1, embedded := false, tag := "", pkgPath := "", byteOffset := 8 }, { name := "Start", type := 53, offset := 3, embedded := false, tag := "", pkgPath := "", byteOffset := 24 }], size := 5, bytes := 40, zero := [Value.int IntKind.i64 0, Value.int IntKind.i64 0, Value.int IntKind.i64 0, Value.int IntKind.i64 0, Value.int IntKind.i64 0], fl := true }
theorem i_62 : TabE Tryz.prog (62, t_62, true) := ⟨by kernel_rfl, fun _ => by kernel_rfl⟩
def t_63 : TyD := { und := TypeDesc.struct #[{ name := "Thing", type := 2, offset := 0, embedded := false, tag := "", pkgPath := "", byteOffset := 0 }, { name := "Warm", type := 53, offset := 1, embedded := false, tag := "", pkgPath := "", byteOffset := 8 }, { name := "Start", type := 53, offset := 3, embedded := false, tag := "", pkgPath := "", byteOffset := 24 }], size := 5, bytes := 40, zero := [Value.int IntKind.i64 0, Value.int IntKind.i64 0, Value.int IntKind.i64 0, Value.int IntKind.i64 0, Value.int IntKind.i64 0], fl := true }
theorem i_63 : TabE Tryz.prog (63, t_63, true) := ⟨by kernel_rfl, fun _ => by kernel_rfl⟩
def t_64 : TyD := { und := TypeDesc.struct #[{ name := "Low", type := 53, offset := 0, embedded := false, tag := "", pkgPath := "", byteOffset := 0 }, { name := "High", type := 53, offset := 2, embedded := false, tag := "", pkgPath := "", byteOffset := 16 }], size := 4, bytes := 32, zero := [Value.int IntKind.i64 0, Value.int IntKind.i64 0, Value.int IntKind.i64 0, Value.int IntKind.i64 0], fl := true }
theorem i_64 : TabE Tryz.prog (64, t_64, true) := ⟨by kernel_rfl, fun _ => by kernel_rfl⟩
def t_65 : TyD := { und := TypeDesc.struct #[{ name := "Low", type := 53, offset := 0, embedded := false, tag := "", pkgPath := "", byteOffset := 0 }, { name := "High", type := 53, offset := 2, embedded := false, tag := "", pkgPath := "", byteOffset := 16 }], size := 4, bytes := 32, zero := [Value.int IntKind.i64 0, Value.int IntKind.i64 0, Value.int IntKind.i64 0, Value.int IntKind.i64 0], fl := true }
theorem i_65 : TabE Tryz.prog (65, t_65, true) := ⟨by kernel_rfl, fun _ => by kernel_rfl⟩
def t_66 : TyD := { und := TypeDesc.struct #[{ name := "Shot", type := 63, offset := 0, embedded := false, tag := "", pkgPath := "", byteOffset := 0 }, { name := "First", type := 53, offset := 5, embedded := false, tag := "", pkgPath := "", byteOffset := 40 }, { name := "Second", type := 53, offset := 7, embedded := false, tag := "", pkgPath := "", byteOffset := 56 }, { name := "Length", type := 53, offset := 9, embedded := false, tag := "", pkgPath := "", byteOffset := 72 }, { name := "Open", type := 65, offset := 11, embedded := false, tag := "", pkgPath := "", byteOffset := 88 }], size := 15, bytes := 120, zero := [Value.int IntKind.i64 0, Value.int IntKind.i64 0, Value.int IntKind.i64 0, Value.int IntKind.i64 0, Value.int IntKind.i64 0, Value.int IntKind.i64 0, Value.int IntKind.i64 0, Value.int IntKind.i64 0, Value.int IntKind.i64 0, Value.int IntKind.i64 0, Value.int IntKind.i64 0, Value.int IntKind.i64 0, Value.int IntKind.i64 0, Value.int IntKind.i64 0, Value.int IntKind.i64 0], fl := true }
theorem i_66 : TabE Tryz.prog (66, t_66, true) := ⟨by kernel_rfl, fun _ => by kernel_rfl⟩
def t_67 : TyD := { und := TypeDesc.struct #[{ name := "Shot", type := 63, offset := 0, embedded := false, tag := "", pkgPath := "", byteOffset := 0 }, { name := "First", type := 53, offset := 5, embedded := false, tag := "", pkgPath := "", byteOffset := 40 }, { name := "Second", type := 53, offset := 7, embedded := false, tag := "", pkgPath := "", byteOffset := 56 }, { name := "Length", type := 53, offset := 9, embedded := false, tag := "", pkgPath := "", byteOffset := 72 }, { name := "Open", type := 65, offset := 11, embedded := false, tag := "", pkgPath := "", byteOffset := 88 }], size := 15, bytes := 120, zero := [Value.int IntKind.i64 0, Value.int IntKind.i64 0, Value.int IntKind.i64 0, Value.int IntKind.i64 0, Value.int IntKind.i64 0, Value.int IntKind.i64 0, Value.int IntKind.i64 0, Value.int IntKind.i64 0, Value.int IntKind.i64 0, Value.int IntKind.i64 0, Value.int IntKind.i64 0, Value.int IntKind.i64 0, Value.int IntKind.i64 0, Value.int IntKind.i64 0, Value.int IntKind.i64 0], fl := true }
theorem i_67 : TabE Tryz.prog (67, t_67, true) := ⟨by kernel_rfl, fun _ => by kernel_rfl⟩
def t_68 : TyD := { und := TypeDesc.slice 119, size := 1, bytes := 24, zero := [Value.slice none 0 0], fl := false }
theorem i_68 : TabE Tryz.prog (68, t_68, false) := ⟨by kernel_rfl, fun h => by simp at h⟩
def t_69 : TyD := { und := TypeDesc.func #[61, 3] #[3] false, size := 1, bytes := 8, zero := [Value.nilFunc], fl := false }
theorem i_69 : TabE Tryz.prog (69, t_69, false) := ⟨by kernel_rfl, fun h => by simp at h⟩
def t_70 : TyD := { und := TypeDesc.func #[68, 3] #[3] false, size := 1, bytes := 8, zero := [Value.nilFunc], fl := false }
theorem i_70 : TabE Tryz.prog (70, t_70, false) := ⟨by kernel_rfl, fun h => by simp at h⟩
def t_71 : TyD := { und := TypeDesc.func #[78, 83, 24, 2, 2] #[30, 2] false, size := 1, bytes := 8, zero := [Value.nilFunc], fl := false }
theorem i_71 : TabE Tryz.prog (71, t_71, false) := ⟨by kernel_rfl, fun h => by simp at h⟩
def t_72 : TyD := { und := TypeDesc.slice 28, size := 1, bytes := 24, zero := [Value.slice none 0 0], fl := false }
theorem i_72 : TabE Tryz.prog (72, t_72, false) := ⟨by kernel_rfl, fun h => by simp at h⟩
def t_73 : TyD := { und := TypeDesc.struct #[{ name := "Unit", type := 28, offset := 0, embedded := false, tag := "", pkgPath := "", byteOffset := 0 }, { name := "Errors", type := 72, offset := 2, embedded := false, tag := "", pkgPath := "", byteOffset := 16 }], size := 3, bytes := 40, zero := [Value.int IntKind.i64 0, Value.int IntKind.i64 0, Value.slice none 0 0], fl := false }
theorem i_73 : TabE Tryz.prog (73, t_73, true) := ⟨by kernel_rfl, fun _ => by kernel_rfl⟩
def t_74 : TyD := { und := TypeDesc.struct #[{ name := "Unit", type := 28, offset := 0, embedded := false, tag := "", pkgPath := "", byteOffset := 0 }, { name := "Errors", type := 72, offset := 2, embedded := false, tag := "", pkgPath := "", byteOffset := 16 }], size := 3, bytes := 40, zero := [Value.int IntKind.i64 0, Value.int IntKind.i64 0, Value.slice none 0 0], fl := false }
theorem i_74 : TabE Tryz.prog (74, t_74, true) := ⟨by kernel_rfl, fun _ => by kernel_rfl⟩
def t_75 : TyD := { und := TypeDesc.struct #[{ name := "Parts", type := 2, offset := 0, embedded := false, tag := "", pkgPath := "", byteOffset := 0 }, { name := "Back", type := 4, offset := 1, embedded := false, tag := "", pkgPath := "", byteOffset := 8 }], size := 2, bytes := 16, zero := [Value.int IntKind.i64 0, Value.bool false], fl := true }
theorem i_75 : TabE Tryz.prog (75, t_75, true) := ⟨by kernel_rfl, fun _ => by kernel_rfl⟩
def t_76 : TyD := { und := TypeDesc.slice 175, size := 1, bytes := 24, zero := [Value.slice none 0 0], fl := false }
theorem i_76 : TabE Tryz.prog (76, t_76, false) := ⟨by kernel_rfl, fun h => by simp at h⟩
def t_77 : TyD := { und := TypeDesc.struct #[{ name := "Scale", type := 74, offset := 0, embedded := false, tag := "", pkgPath := "", byteOffset := 0 }, { name := "Vernier", type := 75, offset := 3, embedded := false, tag := "", pkgPath := "", byteOffset := 40 }, { name := "Grows", type := 28, offset := 5, embedded := false, tag := "", pkgPath := "", byteOffset := 56 }, { name := "Things", type := 76, offset := 7, embedded := false, tag := "", pkgPath := "", byteOffset := 72 }], size := 8, bytes := 96, zero := [Value.int IntKind.i64 0, Value.int IntKind.i64 0, Value.slice none 0 0, Value.int IntKind.i64 0, Value.bool false, Value.int IntKind.i64 0, Value.int IntKind.i64 0, Value.slice none 0 0], fl := false }
theorem i_77 : TabE Tryz.prog (77, t_77, true) := ⟨by kernel_rfl, fun _ => by kernel_rfl⟩
def t_78 : TyD := { und := TypeDesc.struct #[{ name := "Scale", type := 74, offset := 0, embedded := false, tag := "", pkgPath := "", byteOffset := 0 }, { name := "Vernier", type := 75, offset := 3, embedded := false, tag := "", pkgPath := "", byteOffset := 40 }, { name := "Grows", type := 28, offset := 5, embedded := false, tag := "", pkgPath := "", byteOffset := 56 }, { name := "Things", type := 76, offset := 7, embedded := false, tag := "", pkgPath := "", byteOffset := 72 }], size := 8, bytes := 96, zero := [Value.int IntKind.i64 0, Value.int IntKind.i64 0, Value.slice none 0 0, Value.int IntKind.i64 0, Value.bool false, Value.int IntKind.i64 0, Value.int IntKind.i64 0, Value.slice none 0 0], fl := false }
theorem i_78 : TabE Tryz.prog (78, t_78, true) := ⟨by kernel_rfl, fun _ => by kernel_rfl⟩
def t_79 : TyD := { und := TypeDesc.func #[61] #[78] false, size := 1, bytes := 8, zero := [Value.nilFunc], fl := false }
theorem i_79 : TabE Tryz.prog (79, t_79, false) := ⟨by kernel_rfl, fun h => by simp at h⟩
def t_80 : TyD := { und := TypeDesc.struct #[{ name := "Thing", type := 2, offset := 0, embedded := false, tag := "", pkgPath := "", byteOffset := 0 }, { name := "Warm", type := 28, offset := 1, embedded := false, tag := "", pkgPath := "", byteOffset := 8 }, { name := "Start", type := 28, offset := 3, embedded := false, tag := "", pkgPath := "", byteOffset := 24 }], size := 5, bytes := 40, zero := [Value.int IntKind.i64 0, Value.int IntKind.i64 0, Value.int IntKind.i64 0, Value.int IntKind.i64 0, Value.int IntKind.i64 0], fl := true }
theorem i_80 : TabE Tryz.prog (80, t_80, true) := ⟨by kernel_rfl, fun _ => by kernel_rfl⟩
def t_81 : TyD := { und := TypeDesc.struct #[{ name := "Thing", type := 2, offset := 0, embedded := false, tag := "", pkgPath := "", byteOffset := 0 }, { name := "Warm", type := 28, offset := 1, embedded := false, tag := "", pkgPath := "", byteOffset := 8 }, { name := "Start", type := 28, offset := 3, embedded := false, tag := "", pkgPath := "", byteOffset := 24 }], size := 5, bytes := 40, zero := [Value.int IntKind.i64 0, Value.int IntKind.i64 0, Value.int IntKind.i64 0, Value.int IntKind.i64 0, Value.int IntKind.i64 0], fl := true }
theorem i_81 : TabE Tryz.prog (81, t_81, true) := ⟨by kernel_rfl, fun _ => by kernel_rfl⟩
def t_82 : TyD := { und := TypeDesc.struct #[{ name := "Shot", type := 81, offset := 0, embedded := false, tag := "", pkgPath := "", byteOffset := 0 }, { name := "First", type := 28, offset := 5, embedded := false, tag := "", pkgPath := "", byteOffset := 40 }, { name := "Second", type := 28, offset := 7, embedded := false, tag := "", pkgPath := "", byteOffset := 56 }, { name := "Length", type := 28, offset := 9, embedded := false, tag := "", pkgPath := "", byteOffset := 72 }, { name := "Open", type := 30, offset := 11, embedded := false, tag := "", pkgPath := "", byteOffset := 88 }], size := 15, bytes := 120, zero := [Value.int IntKind.i64 0, Value.int IntKind.i64 0, Value.int IntKind.i64 0, Value.int IntKind.i64 0, Value.int IntKind.i64 0, Value.int IntKind.i64 0, Value.int IntKind.i64 0, Value.int IntKind.i64 0, Value.int IntKind.i64 0, Value.int IntKind.i64 0, Value.int IntKind.i64 0, Value.int IntKind.i64 0, Value.int IntKind.i64 0, Value.int IntKind.i64 0, Value.int IntKind.i64 0], fl := true }
theorem i_82 : TabE Tryz.prog (82, t_82, true) := ⟨by kernel_rfl, fun _ => by kernel_rfl⟩
def t_83 : TyD := { und := TypeDesc.struct #[{ name := "Shot", type := 81, offset := 0, embedded := false, tag := "", pkgPath := "", byteOffset := 0 }, { name := "First", type := 28, offset := 5, embedded := false, tag := "", pkgPath := "", byteOffset := 40 }, { name := "Second", type := 28, offset := 7, embedded := false, tag := "", pkgPath := "", byteOffset := 56 }, { name := "Length", type := 28, offset := 9, embedded := false, tag := "", pkgPath := "", byteOffset := 72 }, { name := "Open", type := 30, offset := 11, embedded := false, tag := "", pkgPath := "", byteOffset := 88 }], size := 15, bytes := 120, zero := [Value.int IntKind.i64 0, Value.int IntKind.i64 0, Value.int IntKind.i64 0, Value.int IntKind.i64 0, Value.int IntKind.i64 0, Value.int IntKind.i64 0, Value.int IntKind.i64 0, Value.int IntKind.i64 0, Value.int IntKind.i64 0, Value.int IntKind.i64 0, Value.int IntKind.i64 0, Value.int IntKind.i64 0, Value.int IntKind.i64 0, Value.int IntKind.i64 0, Value.int IntKind.i64 0], fl := true }
theorem i_83 : TabE Tryz.prog (83, t_83, true) := ⟨by kernel_rfl, fun _ => by kernel_rfl⟩
def t_84 : TyD := { und := TypeDesc.func #[67] #[83] false, size := 1, bytes := 8, zero := [Value.nilFunc], fl := false }
theorem i_84 : TabE Tryz.prog (84, t_84, false) := ⟨by kernel_rfl, fun h => by simp at h⟩
def t_85 : TyD := { und := TypeDesc.func #[68] #[24] false, size := 1, bytes := 8, zero := [Value.nilFunc], fl := false }
theorem i_85 : TabE Tryz.prog (85, t_85, false) := ⟨by kernel_rfl, fun h => by simp at h⟩
def t_86 : TyD := { und := TypeDesc.func #[30, 30] #[4] false, size := 1, bytes := 8, zero := [Value.nilFunc], fl := false }
theorem i_86 : TabE Tryz.prog (86, t_86, false) := ⟨by kernel_rfl, fun h => by simp at h⟩
def t_87 : TyD := { und := TypeDesc.func #[78, 78] #[4] false, size := 1, bytes := 8, zero := [Value.nilFunc], fl := false }
theorem i_87 : TabE Tryz.prog (87, t_87, false) := ⟨by kernel_rfl, fun h => by simp at h⟩
def t_88 : TyD := { und := TypeDesc.func #[61, 67, 68, 2, 2] #[4] false, size := 1, bytes := 8, zero := [Value.nilFunc], fl := false }
theorem i_88 : TabE Tryz.prog (88, t_88, false) := ⟨by kernel_rfl, fun h => by simp at h⟩
def t_89 : TyD := { und := TypeDesc.func #[90] #[24] false, size := 1, bytes := 8, zero := [Value.nilFunc], fl := false }
theorem i_89 : TabE Tryz.prog (89, t_89, false) := ⟨by kernel_rfl, fun h => by simp at h⟩
def t_90 : TyD := { und := TypeDesc.pointer 149, size := 1, bytes := 8, zero := [Value.pointer none], fl := false }
theorem i_90 : TabE Tryz.prog (90, t_90, false) := ⟨by kernel_rfl, fun h => by simp at h⟩
def t_91 : TyD := { und := TypeDesc.func #[22] #[90] false, size := 1, bytes := 8, zero := [Value.nilFunc], fl := false }
theorem i_91 : TabE Tryz.prog (91, t_91, false) := ⟨by kernel_rfl, fun h => by simp at h⟩
def t_92 : TyD := { und := TypeDesc.func #[24] #[24] false, size := 1, bytes := 8, zero := [Value.nilFunc], fl := false }
theorem i_92 : TabE Tryz.prog (92, t_92, false) := ⟨by kernel_rfl, fun h => by simp at h⟩
def t_93 : TyD := { und := TypeDesc.func #[24] #[4] false, size := 1, bytes := 8, zero := [Value.nilFunc], fl := false }
theorem i_93 : TabE Tryz.prog (93, t_93, false) := ⟨by kernel_rfl, fun h => by simp at h⟩
def t_94 : TyD := { und := TypeDesc.func #[24, 41, 41] #[2] true, size := 1, bytes := 8, zero := [Value.nilFunc], fl := false }
theorem i_94 : TabE Tryz.prog (94, t_94, false) := ⟨by kernel_rfl, fun h => by simp at h⟩
def t_95 : TyD := { und := TypeDesc.func #[2] #[4] false, size := 1, bytes := 8, zero := [Value.nilFunc], fl := false }
theorem i_95 : TabE Tryz.prog (95, t_95, false) := ⟨by kernel_rfl, fun h => by simp at h⟩
def t_96 : TyD := { und := TypeDesc.pointer 98, size := 1, bytes := 8, zero := [Value.pointer none], fl := false }
theorem i_96 : TabE Tryz.prog (96, t_96, false) := ⟨by kernel_rfl, fun h => by simp at h⟩
def t_97 : TyD := { und := TypeDesc.struct #[{ name := "bad", type := 4, offset := 0, embedded := false, tag := "", pkgPath := "loop.example/g01254/impl", byteOffset := 0 }], size := 1, bytes := 1, zero := [Value.bool false], fl := true }
theorem i_97 : TabE Tryz.prog (97, t_97, true) := ⟨by kernel_rfl, fun _ => by kernel_rfl⟩
def t_98 : TyD := { und := TypeDesc.struct #[{ name := "bad", type := 4, offset := 0, embedded := false, tag := "", pkgPath := "loop.example/g01254/impl", byteOffset := 0 }], size := 1, bytes := 1, zero := [Value.bool false], fl := true }
theorem i_98 : TabE Tryz.prog (98, t_98, true) := ⟨by kernel_rfl, fun _ => by kernel_rfl⟩
def t_99 : TyD := { und := TypeDesc.func #[30] #[30, 2] false, size := 1, bytes := 8, zero := [Value.nilFunc], fl := false }
theorem i_99 : TabE Tryz.prog (99, t_99, false) := ⟨by kernel_rfl, fun h => by simp at h⟩
def t_100 : TyD := { und := TypeDesc.func #[24, 2, 2] #[30] false, size := 1, bytes := 8, zero := [Value.nilFunc], fl := false }
theorem i_100 : TabE Tryz.prog (100, t_100, false) := ⟨by kernel_rfl, fun h => by simp at h⟩
def t_101 : TyD := { und := TypeDesc.func #[158] #[4] true, size := 1, bytes := 8, zero := [Value.nilFunc], fl := false }
theorem i_101 : TabE Tryz.prog (101, t_101, false) := ⟨by kernel_rfl, fun h => by simp at h⟩
def t_102 : TyD := { und := TypeDesc.func #[28, 28] #[28] false, size := 1, bytes := 8, zero := [Value.nilFunc], fl := false }
theorem i_102 : TabE Tryz.prog (102, t_102, false) := ⟨by kernel_rfl, fun h => by simp at h⟩
def t_103 : TyD := { und := TypeDesc.func #[24, 2] #[41] false, size := 1, bytes := 8, zero := [Value.nilFunc], fl := false }
theorem i_103 : TabE Tryz.prog (103, t_103, false) := ⟨by kernel_rfl, fun h => by simp at h⟩
def t_104 : TyD := { und := TypeDesc.func #[] #[28] false, size := 1, bytes := 8, zero := [Value.nilFunc], fl := false }
theorem i_104 : TabE Tryz.prog (104, t_104, false) := ⟨by kernel_rfl, fun h => by simp at h⟩
def t_105 : TyD := { und := TypeDesc.func #[2] #[28] false, size := 1, bytes := 8, zero := [Value.nilFunc], fl := false }
theorem i_105 : TabE Tryz.prog (105, t_105, false) := ⟨by kernel_rfl, fun h => by simp at h⟩
def t_106 : TyD := { und := TypeDesc.func #[28, 28] #[2] false, size := 1, bytes := 8, zero := [Value.nilFunc], fl := false }
theorem i_106 : TabE Tryz.prog (106, t_106, false) := ⟨by kernel_rfl, fun h => by simp at h⟩
def t_107 : TyD := { und := TypeDesc.func #[24, 2, 2] #[2] false, size := 1, bytes := 8, zero := [Value.nilFunc], fl := false }
theorem i_107 : TabE Tryz.prog (107, t_107, false) := ⟨by kernel_rfl, fun h => by simp at h⟩
def t_108 : TyD := { und := TypeDesc.func #[109, 2] #[4] false, size := 1, bytes := 8, zero := [Value.nilFunc], fl := false }
theorem i_108 : TabE Tryz.prog (108, t_108, false) := ⟨by kernel_rfl, fun h => by simp at h⟩
def t_109 : TyD := { und := TypeDesc.pointer 32, size := 1, bytes := 8, zero := [Value.pointer none], fl := false }
theorem i_109 : TabE Tryz.prog (109, t_109, false) := ⟨by kernel_rfl, fun h => by simp at h⟩
def t_110 : TyD := { und := TypeDesc.func #[28, 28] #[28, 2] false, size := 1, bytes := 8, zero := [Value.nilFunc], fl := false }
theorem i_110 : TabE Tryz.prog (110, t_110, false) := ⟨by kernel_rfl, fun h => by simp at h⟩
def t_111 : TyD := { und := TypeDesc.func #[30] #[4] false, size := 1, bytes := 8, zero := [Value.nilFunc], fl := false }
theorem i_111 : TabE Tryz.prog (111, t_111, false) := ⟨by kernel_rfl, fun h => by simp at h⟩
def t_112 : TyD := { und := TypeDesc.func #[28] #[28, 2] false, size := 1, bytes := 8, zero := [Value.nilFunc], fl := false }
theorem i_112 : TabE Tryz.prog (112, t_112, false) := ⟨by kernel_rfl, fun h => by simp at h⟩
def t_113 : TyD := { und := TypeDesc.func #[72] #[4] true, size := 1, bytes := 8, zero := [Value.nilFunc], fl := false }
theorem i_113 : TabE Tryz.prog (113, t_113, false) := ⟨by kernel_rfl, fun h => by simp at h⟩
def t_114 : TyD := { und := TypeDesc.func #[] #[30] false, size := 1, bytes := 8, zero := [Value.nilFunc], fl := false }
theorem i_114 : TabE Tryz.prog (114, t_114, false) := ⟨by kernel_rfl, fun h => by simp at h⟩
def t_115 : TyD := { und := TypeDesc.func #[56, 3] #[3] false, size := 1, bytes := 8, zero := [Value.nilFunc], fl := false }
theorem i_115 : TabE Tryz.prog (115, t_115, false) := ⟨by kernel_rfl, fun h => by simp at h⟩
def t_116 : TyD := { und := TypeDesc.func #[59, 3] #[3] false, size := 1, bytes := 8, zero := [Value.nilFunc], fl := false }
theorem i_116 : TabE Tryz.prog (116, t_116, false) := ⟨by kernel_rfl, fun h => by simp at h⟩
def t_117 : TyD := { und := TypeDesc.func #[119, 3] #[3] false, size := 1, bytes := 8, zero := [Value.nilFunc], fl := false }
theorem i_117 : TabE Tryz.prog (117, t_117, false) := ⟨by kernel_rfl, fun h => by simp at h⟩
def t_118 : TyD := { und := TypeDesc.struct #[{ name := "Name", type := 9, offset := 0, embedded := false, tag := "", pkgPath := "", byteOffset := 0 }, { name := "From", type := 2, offset := 1, embedded := false, tag := "", pkgPath := "", byteOffset := 16 }, { name := "Value", type := 65, offset := 2, embedded := false, tag := "", pkgPath := "", byteOffset := 24 }, { name := "Drift", type := 53, offset := 6, embedded := false, tag := "", pkgPath := "", byteOffset := 56 }, { name := "Made", type := 2, offset := 8, embedded := false, tag := "", pkgPath := "", byteOffset := 72 }, { name := "Good", type := 2, offset := 9, embedded := false, tag := "", pkgPath := "", byteOffset := 80 }], size := 10, bytes := 88, zero := [Value.string ⟨#[]⟩, Value.int IntKind.i64 0, Value.int IntKind.i64 0, Value.int IntKind.i64 0, Value.int IntKind.i64 0, Value.int IntKind.i64 0, Value.int IntKind.i64 0, Value.int IntKind.i64 0, Value.int IntKind.i64 0, Value.int IntKind.i64 0], fl := true }
theorem i_118 : TabE Tryz.prog (118, t_118, true) := ⟨by kernel_rfl, fun _ => by kernel_rfl⟩
def t_119 : TyD := { und := TypeDesc.struct #[{ name := "Name", type := 9, offset := 0, embedded := false, tag := "", pkgPath := "", byteOffset := 0 }, { name := "From", type := 2, offset := 1, embedded := false, tag := "", pkgPath := "", byteOffset := 16 }, { name := "Value", type := 65, offset := 2, embedded := false, tag := "", pkgPath := "", byteOffset := 24 }, { name := "Drift", type := 53, offset := 6, embedded := false, tag := "", pkgPath := "", byteOffset := 56 }, { name := "Made", type := 2, offset := 8, embedded := false, tag := "", pkgPath := "", byteOffset := 72 }, { name := "Good", type := 2, offset := 9, embedded := false, tag := "", pkgPath := "", byteOffset := 80 }], size := 10, bytes := 88, zero := [Value.string ⟨#[]⟩, Value.int IntKind.i64 0, Value.int IntKind.i64 0, Value.int IntKind.i64 0, Value.int IntKind.i64 0, Value.int IntKind.i64 0, Value.int IntKind.i64 0, Value.int IntKind.i64 0, Value.int IntKind.i64 0, Value.int IntKind.i64 0], fl := true }
theorem i_119 : TabE Tryz.prog (119, t_119, true) := ⟨by kernel_rfl, fun _ => by kernel_rfl⟩
def t_120 : TyD := { und := TypeDesc.func #[121] #[4] false, size := 1, bytes := 8, zero := [Value.nilFunc], fl := false }
theorem i_120 : TabE Tryz.prog (120, t_120, false) := ⟨by kernel_rfl, fun h => by simp at h⟩
def t_121 : TyD := { und := TypeDesc.pointer 78, size := 1, bytes := 8, zero := [Value.pointer none], fl := false }
theorem i_121 : TabE Tryz.prog (121, t_121, false) := ⟨by kernel_rfl, fun h => by simp at h⟩
def t_122 : TyD := { und := TypeDesc.func #[121, 123] #[4] false, size := 1, bytes := 8, zero := [Value.nilFunc], fl := false }
theorem i_122 : TabE Tryz.prog (122, t_122, false) := ⟨by kernel_rfl, fun h => by simp at h⟩
def t_123 : TyD := { und := TypeDesc.pointer 83, size := 1, bytes := 8, zero := [Value.pointer none], fl := false }
theorem i_123 : TabE Tryz.prog (123, t_123, false) := ⟨by kernel_rfl, fun h => by simp at h⟩
def t_124 : TyD := { und := TypeDesc.func #[56] #[74] false, size := 1, bytes := 8, zero := [Value.nilFunc], fl := false }
theorem i_124 : TabE Tryz.prog (124, t_124, false) := ⟨by kernel_rfl, fun h => by simp at h⟩
def t_125 : TyD := { und := TypeDesc.func #[58] #[75] false, size := 1, bytes := 8, zero := [Value.nilFunc], fl := false }
theorem i_125 : TabE Tryz.prog (125, t_125, false) := ⟨by kernel_rfl, fun h => by simp at h⟩
def t_126 : TyD := { und := TypeDesc.func #[53] #[28] false, size := 1, bytes := 8, zero := [Value.nilFunc], fl := false }
theorem i_126 : TabE Tryz.prog (126, t_126, false) := ⟨by kernel_rfl, fun h => by simp at h⟩
def t_127 : TyD := { und := TypeDesc.func #[59] #[76] false, size := 1, bytes := 8, zero := [Value.nilFunc], fl := false }
theorem i_127 : TabE Tryz.prog (127, t_127, false) := ⟨by kernel_rfl, fun h => by simp at h⟩
def t_128 : TyD := { und := TypeDesc.func #[63] #[81] false, size := 1, bytes := 8, zero := [Value.nilFunc], fl := false }
theorem i_128 : TabE Tryz.prog (128, t_128, false) := ⟨by kernel_rfl, fun h => by simp at h⟩
def t_129 : TyD := { und := TypeDesc.func #[65] #[30] false, size := 1, bytes := 8, zero := [Value.nilFunc], fl := false }
theorem i_129 : TabE Tryz.prog (129, t_129, false) := ⟨by kernel_rfl, fun h => by simp at h⟩
def t_130 : TyD := { und := TypeDesc.func #[119] #[32] false, size := 1, bytes := 8, zero := [Value.nilFunc], fl := false }
theorem i_130 : TabE Tryz.prog (130, t_130, false) := ⟨by kernel_rfl, fun h => by simp at h⟩
def t_131 : TyD := { und := TypeDesc.func #[78] #[4] false, size := 1, bytes := 8, zero := [Value.nilFunc], fl := false }
theorem i_131 : TabE Tryz.prog (131, t_131, false) := ⟨by kernel_rfl, fun h => by simp at h⟩
def t_133 : TyD := { und := TypeDesc.func #[78, 83] #[4, 2] false, size := 1, bytes := 8, zero := [Value.nilFunc], fl := false }
theorem i_133 : TabE Tryz.prog (133, t_133, false) := ⟨by kernel_rfl, fun h => by simp at h⟩
def t_134 : TyD := { und := TypeDesc.func #[28, 28] #[4] false, size := 1, bytes := 8, zero := [Value.nilFunc], fl := false }
theorem i_134 : TabE Tryz.prog (134, t_134, false) := ⟨by kernel_rfl, fun h => by simp at h⟩
def t_135 : TyD := { und := TypeDesc.func #[74, 74] #[4] false, size := 1, bytes := 8, zero := [Value.nilFunc], fl := false }
theorem i_135 : TabE Tryz.prog (135, t_135, false) := ⟨by kernel_rfl, fun h => by simp at h⟩
def t_136 : TyD := { und := TypeDesc.func #[75, 75] #[4] false, size := 1, bytes := 8, zero := [Value.nilFunc], fl := false }
theorem i_136 : TabE Tryz.prog (136, t_136, false) := ⟨by kernel_rfl, fun h => by simp at h⟩
def t_137 : TyD := { und := TypeDesc.func #[76, 76] #[4] false, size := 1, bytes := 8, zero := [Value.nilFunc], fl := false }
theorem i_137 : TabE Tryz.prog (137, t_137, false) := ⟨by kernel_rfl, fun h => by simp at h⟩
def t_138 : TyD := { und := TypeDesc.func #[32, 32] #[4] false, size := 1, bytes := 8, zero := [Value.nilFunc], fl := false }
theorem i_138 : TabE Tryz.prog (138, t_138, false) := ⟨by kernel_rfl, fun h => by simp at h⟩
def t_139 : TyD := { und := TypeDesc.slice 9, size := 1, bytes := 24, zero := [Value.slice none 0 0], fl := false }
theorem i_139 : TabE Tryz.prog (139, t_139, false) := ⟨by kernel_rfl, fun h => by simp at h⟩
def t_140 : TyD := { und := TypeDesc.func #[] #[139] false, size := 1, bytes := 8, zero := [Value.nilFunc], fl := false }
theorem i_140 : TabE Tryz.prog (140, t_140, false) := ⟨by kernel_rfl, fun h => by simp at h⟩
def t_141 : TyD := { und := TypeDesc.func #[2] #[2] false, size := 1, bytes := 8, zero := [Value.nilFunc], fl := false }
theorem i_141 : TabE Tryz.prog (141, t_141, false) := ⟨by kernel_rfl, fun h => by simp at h⟩
def t_142 : TyD := { und := TypeDesc.func #[90, 2] #[30] false, size := 1, bytes := 8, zero := [Value.nilFunc], fl := false }
theorem i_142 : TabE Tryz.prog (142, t_142, false) := ⟨by kernel_rfl, fun h => by simp at h⟩
def t_143 : TyD := { und := TypeDesc.func #[90, 2] #[28] false, size := 1, bytes := 8, zero := [Value.nilFunc], fl := false }
theorem i_143 : TabE Tryz.prog (143, t_143, false) := ⟨by kernel_rfl, fun h => by simp at h⟩
def t_144 : TyD := { und := TypeDesc.func #[28] #[28] false, size := 1, bytes := 8, zero := [Value.nilFunc], fl := false }
theorem i_144 : TabE Tryz.prog (144, t_144, false) := ⟨by kernel_rfl, fun h => by simp at h⟩
def t_145 : TyD := { und := TypeDesc.func #[2, 2] #[2] false, size := 1, bytes := 8, zero := [Value.nilFunc], fl := false }
theorem i_145 : TabE Tryz.prog (145, t_145, false) := ⟨by kernel_rfl, fun h => by simp at h⟩
def t_146 : TyD := { und := TypeDesc.func #[41] #[2] false, size := 1, bytes := 8, zero := [Value.nilFunc], fl := false }
theorem i_146 : TabE Tryz.prog (146, t_146, false) := ⟨by kernel_rfl, fun h => by simp at h⟩
def t_147 : TyD := { und := TypeDesc.int IntKind.u64, size := 1, bytes := 8, zero := [Value.int IntKind.u64 0], fl := true }
theorem i_147 : TabE Tryz.prog (147, t_147, false) := ⟨by kernel_rfl, fun h => by simp at h⟩
def t_148 : TyD := { und := TypeDesc.struct #[{ name := "code", type := 22, offset := 0, embedded := false, tag := "", pkgPath := "loop.example/g01254/spec", byteOffset := 0 }, { name := "at", type := 3, offset := 1, embedded := false, tag := "", pkgPath := "loop.example/g01254/spec", byteOffset := 24 }, { name := "seed", type := 147, offset := 2, embedded := false, tag := "", pkgPath := "loop.example/g01254/spec", byteOffset := 32 }], size := 3, bytes := 40, zero := [Value.slice none 0 0, Value.int IntKind.i64 0, Value.int IntKind.u64 0], fl := false }
theorem i_148 : TabE Tryz.prog (148, t_148, true) := ⟨by kernel_rfl, fun _ => by kernel_rfl⟩
def t_149 : TyD := { und := TypeDesc.struct #[{ name := "code", type := 22, offset := 0, embedded := false, tag := "", pkgPath := "loop.example/g01254/spec", byteOffset := 0 }, { name := "at", type := 3, offset := 1, embedded := false, tag := "", pkgPath := "loop.example/g01254/spec", byteOffset := 24 }, { name := "seed", type := 147, offset := 2, embedded := false, tag := "", pkgPath := "loop.example/g01254/spec", byteOffset := 32 }], size := 3, bytes := 40, zero := [Value.slice none 0 0, Value.int IntKind.i64 0, Value.int IntKind.u64 0], fl := false }
theorem i_149 : TabE Tryz.prog (149, t_149, true) := ⟨by kernel_rfl, fun _ => by kernel_rfl⟩
def t_150 : TyD := { und := TypeDesc.func #[9] #[4] false, size := 1, bytes := 8, zero := [Value.nilFunc], fl := false }
theorem i_150 : TabE Tryz.prog (150, t_150, false) := ⟨by kernel_rfl, fun h => by simp at h⟩
def t_151 : TyD := { und := TypeDesc.func #[24, 152] #[4] false, size := 1, bytes := 8, zero := [Value.nilFunc], fl := false }
theorem i_151 : TabE Tryz.prog (151, t_151, false) := ⟨by kernel_rfl, fun h => by simp at h⟩
def t_152 : TyD := { und := TypeDesc.func #[32] #[4] false, size := 1, bytes := 8, zero := [Value.nilFunc], fl := false }
theorem i_152 : TabE Tryz.prog (152, t_152, false) := ⟨by kernel_rfl, fun h => by simp at h⟩
def t_153 : TyD := { und := TypeDesc.func #[2, 2, 2] #[4] false, size := 1, bytes := 8, zero := [Value.nilFunc], fl := false }
theorem i_153 : TabE Tryz.prog (153, t_153, false) := ⟨by kernel_rfl, fun h => by simp at h⟩
def t_154 : TyD := { und := TypeDesc.func #[28] #[4] false, size := 1, bytes := 8, zero := [Value.nilFunc], fl := false }
theorem i_154 : TabE Tryz.prog (154, t_154, false) := ⟨by kernel_rfl, fun h => by simp at h⟩
def t_155 : TyD := { und := TypeDesc.func #[24, 109] #[4] false, size := 1, bytes := 8, zero := [Value.nilFunc], fl := false }
theorem i_155 : TabE Tryz.prog (155, t_155, false) := ⟨by kernel_rfl, fun h => by simp at h⟩
def t_156 : TyD := { und := TypeDesc.func #[41, 95] #[4] false, size := 1, bytes := 8, zero := [Value.nilFunc], fl := false }
theorem i_156 : TabE Tryz.prog (156, t_156, false) := ⟨by kernel_rfl, fun h => by simp at h⟩
def t_157 : TyD := { und := TypeDesc.func #[24, 41, 2, 30] #[30] false, size := 1, bytes := 8, zero := [Value.nilFunc], fl := false }
theorem i_157 : TabE Tryz.prog (157, t_157, false) := ⟨by kernel_rfl, fun h => by simp at h⟩
def t_158 : TyD := { und := TypeDesc.slice 30, size := 1, bytes := 24, zero := [Value.slice none 0 0], fl := false }
theorem i_158 : TabE Tryz.prog (158, t_158, false) := ⟨by kernel_rfl, fun h => by simp at h⟩
def t_159 : TyD := { und := TypeDesc.func #[158, 111] #[4] false, size := 1, bytes := 8, zero := [Value.nilFunc], fl := false }
theorem i_159 : TabE Tryz.prog (159, t_159, false) := ⟨by kernel_rfl, fun h => by simp at h⟩
def t_160 : TyD := { und := TypeDesc.func #[2, 2] #[28] false, size := 1, bytes := 8, zero := [Value.nilFunc], fl := false }
theorem i_160 : TabE Tryz.prog (160, t_160, false) := ⟨by kernel_rfl, fun h => by simp at h⟩
def t_161 : TyD := { und := TypeDesc.func #[2, 2] #[28, 2] false, size := 1, bytes := 8, zero := [Value.nilFunc], fl := false }
theorem i_161 : TabE Tryz.prog (161, t_161, false) := ⟨by kernel_rfl, fun h => by simp at h⟩
def t_162 : TyD := { und := TypeDesc.func #[72, 154] #[4] false, size := 1, bytes := 8, zero := [Value.nilFunc], fl := false }
theorem i_162 : TabE Tryz.prog (162, t_162, false) := ⟨by kernel_rfl, fun h => by simp at h⟩
def t_163 : TyD := { und := TypeDesc.func #[24, 95] #[41] false, size := 1, bytes := 8, zero := [Value.nilFunc], fl := false }
theorem i_163 : TabE Tryz.prog (163, t_163, false) := ⟨by kernel_rfl, fun h => by simp at h⟩
def t_164 : TyD := { und := TypeDesc.func #[24, 41, 30, 2] #[30, 2] false, size := 1, bytes := 8, zero := [Value.nilFunc], fl := false }
theorem i_164 : TabE Tryz.prog (164, t_164, false) := ⟨by kernel_rfl, fun h => by simp at h⟩
def t_165 : TyD := { und := TypeDesc.func #[54, 3] #[3] false, size := 1, bytes := 8, zero := [Value.nilFunc], fl := false }
theorem i_165 : TabE Tryz.prog (165, t_165, false) := ⟨by kernel_rfl, fun h => by simp at h⟩
def t_166 : TyD := { und := TypeDesc.func #[168, 3] #[3] false, size := 1, bytes := 8, zero := [Value.nilFunc], fl := false }
theorem i_166 : TabE Tryz.prog (166, t_166, false) := ⟨by kernel_rfl, fun h => by simp at h⟩
def t_167 : TyD := { und := TypeDesc.struct #[{ name := "Name", type := 9, offset := 0, embedded := false, tag := "", pkgPath := "", byteOffset := 0 }, { name := "Length", type := 53, offset := 1, embedded := false, tag := "", pkgPath := "", byteOffset := 16 }, { name := "Grows", type := 53, offset := 3, embedded := false, tag := "", pkgPath := "", byteOffset := 32 }], size := 5, bytes := 48, zero := [Value.string ⟨#[]⟩, Value.int IntKind.i64 0, Value.int IntKind.i64 0, Value.int IntKind.i64 0, Value.int IntKind.i64 0], fl := true }
theorem i_167 : TabE Tryz.prog (167, t_167, true) := ⟨by kernel_rfl, fun _ => by kernel_rfl⟩
def t_168 : TyD := { und := TypeDesc.struct #[{ name := "Name", type := 9, offset := 0, embedded := false, tag := "", pkgPath := "", byteOffset := 0 }, { name := "Length", type := 53, offset := 1, embedded := false, tag := "", pkgPath := "", byteOffset := 16 }, { name := "Grows", type := 53, offset := 3, embedded := false, tag := "", pkgPath := "", byteOffset := 32 }], size := 5, bytes := 48, zero := [Value.string ⟨#[]⟩, Value.int IntKind.i64 0, Value.int IntKind.i64 0, Value.int IntKind.i64 0, Value.int IntKind.i64 0], fl := true }
theorem i_168 : TabE Tryz.prog (168, t_168, true) := ⟨by kernel_rfl, fun _ => by kernel_rfl⟩
def t_169 : TyD := { und := TypeDesc.func #[170] #[4] false, size := 1, bytes := 8, zero := [Value.nilFunc], fl := false }
theorem i_169 : TabE Tryz.prog (169, t_169, false) := ⟨by kernel_rfl, fun h => by simp at h⟩
def t_170 : TyD := { und := TypeDesc.pointer 74, size := 1, bytes := 8, zero := [Value.pointer none], fl := false }
theorem i_170 : TabE Tryz.prog (170, t_170, false) := ⟨by kernel_rfl, fun h => by simp at h⟩
def t_171 : TyD := { und := TypeDesc.func #[172] #[4] false, size := 1, bytes := 8, zero := [Value.nilFunc], fl := false }
theorem i_171 : TabE Tryz.prog (171, t_171, false) := ⟨by kernel_rfl, fun h => by simp at h⟩
def t_172 : TyD := { und := TypeDesc.pointer 75, size := 1, bytes := 8, zero := [Value.pointer none], fl := false }
theorem i_172 : TabE Tryz.prog (172, t_172, false) := ⟨by kernel_rfl, fun h => by simp at h⟩
def t_173 : TyD := { und := TypeDesc.pointer 175, size := 1, bytes := 8, zero := [Value.pointer none], fl := false }
theorem i_173 : TabE Tryz.prog (173, t_173, false) := ⟨by kernel_rfl, fun h => by simp at h⟩
def t_174 : TyD := { und := TypeDesc.struct #[{ name := "Name", type := 9, offset := 0, embedded := false, tag := "", pkgPath := "", byteOffset := 0 }, { name := "Length", type := 28, offset := 1, embedded := false, tag := "", pkgPath := "", byteOffset := 16 }, { name := "Grows", type := 28, offset := 3, embedded := false, tag := "", pkgPath := "", byteOffset := 32 }], size := 5, bytes := 48, zero := [Value.string ⟨#[]⟩, Value.int IntKind.i64 0, Value.int IntKind.i64 0, Value.int IntKind.i64 0, Value.int IntKind.i64 0], fl := true }
theorem i_174 : TabE Tryz.prog (174, t_174, true) := ⟨by kernel_rfl, fun _ => by kernel_rfl⟩
def t_175 : TyD := { und := TypeDesc.struct #[{ name := "Name", type := 9, offset := 0, embedded := false, tag := "", pkgPath := "", byteOffset := 0 }, { name := "Length", type := 28, offset := 1, embedded := false, tag := "", pkgPath := "", byteOffset := 16 }, { name := "Grows", type := 28, offset := 3, embedded := false, tag := "", pkgPath := "", byteOffset := 32 }], size := 5, bytes := 48, zero := [Value.string ⟨#[]⟩, Value.int IntKind.i64 0, Value.int IntKind.i64 0, Value.int IntKind.i64 0, Value.int IntKind.i64 0], fl := true }
theorem i_175 : TabE Tryz.prog (175, t_175, true) := ⟨by kernel_rfl, fun _ => by kernel_rfl⟩
def t_176 : TyD := { und := TypeDesc.func #[28, 2] #[4] false, size := 1, bytes := 8, zero := [Value.nilFunc], fl := false }
theorem i_176 : TabE Tryz.prog (176, t_176, false) := ⟨by kernel_rfl, fun h => by simp at h⟩
def t_177 : TyD := { und := TypeDesc.func #[121, 178] #[4] false, size := 1, bytes := 8, zero := [Value.nilFunc], fl := false }
theorem i_177 : TabE Tryz.prog (177, t_177, false) := ⟨by kernel_rfl, fun h => by simp at h⟩
def t_178 : TyD := { und := TypeDesc.pointer 81, size := 1, bytes := 8, zero := [Value.pointer none], fl := false }
theorem i_178 : TabE Tryz.prog (178, t_178, false) := ⟨by kernel_rfl, fun h => by simp at h⟩
def t_180 : TyD := { und := TypeDesc.func #[121, 178] #[83, 2] false, size := 1, bytes := 8, zero := [Value.nilFunc], fl := false }
theorem i_180 : TabE Tryz.prog (180, t_180, false) := ⟨by kernel_rfl, fun h => by simp at h⟩
def t_181 : TyD := { und := TypeDesc.func #[54] #[72] false, size := 1, bytes := 8, zero := [Value.nilFunc], fl := false }
theorem i_181 : TabE Tryz.prog (181, t_181, false) := ⟨by kernel_rfl, fun h => by simp at h⟩
def t_182 : TyD := { und := TypeDesc.func #[168] #[175] false, size := 1, bytes := 8, zero := [Value.nilFunc], fl := false }
theorem i_182 : TabE Tryz.prog (182, t_182, false) := ⟨by kernel_rfl, fun h => by simp at h⟩
def t_183 : TyD := { und := TypeDesc.func #[76, 184] #[4] false, size := 1, bytes := 8, zero := [Value.nilFunc], fl := false }
theorem i_183 : TabE Tryz.prog (183, t_183, false) := ⟨by kernel_rfl, fun h => by simp at h⟩
def t_184 : TyD := { und := TypeDesc.func #[175] #[4] false, size := 1, bytes := 8, zero := [Value.nilFunc], fl := false }
theorem i_184 : TabE Tryz.prog (184, t_184, false) := ⟨by kernel_rfl, fun h => by simp at h⟩
def t_185 : TyD := { und := TypeDesc.func #[74] #[4] false, size := 1, bytes := 8, zero := [Value.nilFunc], fl := false }
theorem i_185 : TabE Tryz.prog (185, t_185, false) := ⟨by kernel_rfl, fun h => by simp at h⟩
def t_186 : TyD := { und := TypeDesc.func #[75] #[4] false, size := 1, bytes := 8, zero := [Value.nilFunc], fl := false }
theorem i_186 : TabE Tryz.prog (186, t_186, false) := ⟨by kernel_rfl, fun h => by simp at h⟩
def t_187 : TyD := { und := TypeDesc.func #[78, 81] #[83, 2] false, size := 1, bytes := 8, zero := [Value.nilFunc], fl := false }
theorem i_187 : TabE Tryz.prog (187, t_187, false) := ⟨by kernel_rfl, fun h => by simp at h⟩
def t_188 : TyD := { und := TypeDesc.func #[72, 72] #[4] false, size := 1, bytes := 8, zero := [Value.nilFunc], fl := false }
theorem i_188 : TabE Tryz.prog (188, t_188, false) := ⟨by kernel_rfl, fun h => by simp at h⟩
def t_189 : TyD := { und := TypeDesc.func #[175, 175] #[4] false, size := 1, bytes := 8, zero := [Value.nilFunc], fl := false }
theorem i_189 : TabE Tryz.prog (189, t_189, false) := ⟨by kernel_rfl, fun h => by simp at h⟩
def t_190 : TyD := { und := TypeDesc.func #[] #[2] false, size := 1, bytes := 8, zero := [Value.nilFunc], fl := false }
theorem i_190 : TabE Tryz.prog (190, t_190, false) := ⟨by kernel_rfl, fun h => by simp at h⟩
def t_191 : TyD := { und := TypeDesc.func #[24, 152] #[3] false, size := 1, bytes := 8, zero := [Value.nilFunc], fl := false }
theorem i_191 : TabE Tryz.prog (191, t_191, false) := ⟨by kernel_rfl, fun h => by simp at h⟩
def t_192 : TyD := { und := TypeDesc.func #[193] #[4] false, size := 1, bytes := 8, zero := [Value.nilFunc], fl := false }
theorem i_192 : TabE Tryz.prog (192, t_192, false) := ⟨by kernel_rfl, fun h => by simp at h⟩
def t_193 : TyD := { und := TypeDesc.pointer 30, size := 1, bytes := 8, zero := [Value.pointer none], fl := false }
theorem i_193 : TabE Tryz.prog (193, t_193, false) := ⟨by kernel_rfl, fun h => by simp at h⟩
def t_194 : TyD := { und := TypeDesc.func #[41, 95] #[3] false, size := 1, bytes := 8, zero := [Value.nilFunc], fl := false }
theorem i_194 : TabE Tryz.prog (194, t_194, false) := ⟨by kernel_rfl, fun h => by simp at h⟩
def t_195 : TyD := { und := TypeDesc.func #[30, 28] #[30] false, size := 1, bytes := 8, zero := [Value.nilFunc], fl := false }
theorem i_195 : TabE Tryz.prog (195, t_195, false) := ⟨by kernel_rfl, fun h => by simp at h⟩
def t_196 : TyD := { und := TypeDesc.func #[30, 30] #[30] false, size := 1, bytes := 8, zero := [Value.nilFunc], fl := false }
theorem i_196 : TabE Tryz.prog (196, t_196, false) := ⟨by kernel_rfl, fun h => by simp at h⟩
def t_197 : TyD := { und := TypeDesc.func #[158, 111] #[3] false, size := 1, bytes := 8, zero := [Value.nilFunc], fl := false }
theorem i_197 : TabE Tryz.prog (197, t_197, false) := ⟨by kernel_rfl, fun h => by simp at h⟩
def t_199 : TyD := { und := TypeDesc.func #[2, 2] #[28, 4] false, size := 1, bytes := 8, zero := [Value.nilFunc], fl := false }
theorem i_199 : TabE Tryz.prog (199, t_199, false) := ⟨by kernel_rfl, fun h => by simp at h⟩
def t_200 : TyD := { und := TypeDesc.func #[72, 154] #[3] false, size := 1, bytes := 8, zero := [Value.nilFunc], fl := false }
theorem i_200 : TabE Tryz.prog (200, t_200, false) := ⟨by kernel_rfl, fun h => by simp at h⟩
def t_201 : TyD := { und := TypeDesc.func #[30, 28, 2] #[30, 2] false, size := 1, bytes := 8, zero := [Value.nilFunc], fl := false }
theorem i_201 : TabE Tryz.prog (201, t_201, false) := ⟨by kernel_rfl, fun h => by simp at h⟩
def t_202 : TyD := { und := TypeDesc.func #[170, 2] #[28, 2] false, size := 1, bytes := 8, zero := [Value.nilFunc], fl := false }
theorem i_202 : TabE Tryz.prog (202, t_202, false) := ⟨by kernel_rfl, fun h => by simp at h⟩
def t_204 : TyD := { und := TypeDesc.func #[121, 178] #[28, 28, 2] false, size := 1, bytes := 8, zero := [Value.nilFunc], fl := false }
theorem i_204 : TabE Tryz.prog (204, t_204, false) := ⟨by kernel_rfl, fun h => by simp at h⟩
def t_205 : TyD := { und := TypeDesc.func #[121, 178, 28, 28] #[28, 2] false, size := 1, bytes := 8, zero := [Value.nilFunc], fl := false }
theorem i_205 : TabE Tryz.prog (205, t_205, false) := ⟨by kernel_rfl, fun h => by simp at h⟩
def t_206 : TyD := { und := TypeDesc.func #[121, 178, 28, 28] #[30, 2] false, size := 1, bytes := 8, zero := [Value.nilFunc], fl := false }
theorem i_206 : TabE Tryz.prog (206, t_206, false) := ⟨by kernel_rfl, fun h => by simp at h⟩
def t_207 : TyD := { und := TypeDesc.func #[28, 2, 28, 2] #[30, 2] false, size := 1, bytes := 8, zero := [Value.nilFunc], fl := false }
theorem i_207 : TabE Tryz.prog (207, t_207, false) := ⟨by kernel_rfl, fun h => by simp at h⟩
def t_208 : TyD := { und := TypeDesc.func #[76, 184] #[3] false, size := 1, bytes := 8, zero := [Value.nilFunc], fl := false }
theorem i_208 : TabE Tryz.prog (208, t_208, false) := ⟨by kernel_rfl, fun h => by simp at h⟩
def t_209 : TyD := { und := TypeDesc.func #[78, 81] #[28, 28, 2] false, size := 1, bytes := 8, zero := [Value.nilFunc], fl := false }
theorem i_209 : TabE Tryz.prog (209, t_209, false) := ⟨by kernel_rfl, fun h => by simp at h⟩
def t_210 : TyD := { und := TypeDesc.func #[78, 81, 28, 28] #[28, 2] false, size := 1, bytes := 8, zero := [Value.nilFunc], fl := false }
theorem i_210 : TabE Tryz.prog (210, t_210, false) := ⟨by kernel_rfl, fun h => by simp at h⟩
def t_211 : TyD := { und := TypeDesc.func #[78, 81, 28, 28] #[30, 2] false, size := 1, bytes := 8, zero := [Value.nilFunc], fl := false }
theorem i_211 : TabE Tryz.prog (211, t_211, false) := ⟨by kernel_rfl, fun h => by simp at h⟩
def t_212 : TyD := { und := TypeDesc.int IntKind.u64, size := 1, bytes := 8, zero := [Value.int IntKind.u64 0], fl := true }
theorem i_212 : TabE Tryz.prog (212, t_212, false) := ⟨by kernel_rfl, fun h => by simp at h⟩
def t_214 : TyD := { und := TypeDesc.func #[74, 28] #[74, 2] false, size := 1, bytes := 8, zero := [Value.nilFunc], fl := false }
theorem i_214 : TabE Tryz.prog (214, t_214, false) := ⟨by kernel_rfl, fun h => by simp at h⟩
def t_215 : TyD := { und := TypeDesc.array 2 28, size := 4, bytes := 32, zero := [Value.int IntKind.i64 0, Value.int IntKind.i64 0, Value.int IntKind.i64 0, Value.int IntKind.i64 0], fl := true }
theorem i_215 : TabE Tryz.prog (215, t_215, false) := ⟨by kernel_rfl, fun h => by simp at h⟩
def t_216 : TyD := { und := TypeDesc.func #[170, 172, 28] #[28, 2] false, size := 1, bytes := 8, zero := [Value.nilFunc], fl := false }
theorem i_216 : TabE Tryz.prog (216, t_216, false) := ⟨by kernel_rfl, fun h => by simp at h⟩
def t_217 : TyD := { und := TypeDesc.func #[121, 178, 28] #[28, 2] false, size := 1, bytes := 8, zero := [Value.nilFunc], fl := false }
theorem i_217 : TabE Tryz.prog (217, t_217, false) := ⟨by kernel_rfl, fun h => by simp at h⟩
def t_218 : TyD := { und := TypeDesc.func #[170, 172] #[28, 2] false, size := 1, bytes := 8, zero := [Value.nilFunc], fl := false }
theorem i_218 : TabE Tryz.prog (218, t_218, false) := ⟨by kernel_rfl, fun h => by simp at h⟩
def t_219 : TyD := { und := TypeDesc.func #[28, 28] #[30, 2] false, size := 1, bytes := 8, zero := [Value.nilFunc], fl := false }
theorem i_219 : TabE Tryz.prog (219, t_219, false) := ⟨by kernel_rfl, fun h => by simp at h⟩
def t_220 : TyD := { und := TypeDesc.func #[74, 75, 28] #[28, 2] false, size := 1, bytes := 8, zero := [Value.nilFunc], fl := false }
theorem i_220 : TabE Tryz.prog (220, t_220, false) := ⟨by kernel_rfl, fun h => by simp at h⟩
def t_221 : TyD := { und := TypeDesc.func #[78, 81, 28, 28] #[2] false, size := 1, bytes := 8, zero := [Value.nilFunc], fl := false }
theorem i_221 : TabE Tryz.prog (221, t_221, false) := ⟨by kernel_rfl, fun h => by simp at h⟩
def t_222 : TyD := { und := TypeDesc.func #[78, 81, 28] #[28] false, size := 1, bytes := 8, zero := [Value.nilFunc], fl := false }
theorem i_222 : TabE Tryz.prog (222, t_222, false) := ⟨by kernel_rfl, fun h => by simp at h⟩
def t_223 : TyD := { und := TypeDesc.func #[74, 75] #[28] false, size := 1, bytes := 8, zero := [Value.nilFunc], fl := false }
theorem i_223 : TabE Tryz.prog (223, t_223, false) := ⟨by kernel_rfl, fun h => by simp at h⟩
def t_224 : TyD := { und := TypeDesc.func #[170, 172, 28] #[2, 2] false, size := 1, bytes := 8, zero := [Value.nilFunc], fl := false }
theorem i_224 : TabE Tryz.prog (224, t_224, false) := ⟨by kernel_rfl, fun h => by simp at h⟩
def t_225 : TyD := { und := TypeDesc.func #[2] #[2, 2] false, size := 1, bytes := 8, zero := [Value.nilFunc], fl := false }
theorem i_225 : TabE Tryz.prog (225, t_225, false) := ⟨by kernel_rfl, fun h => by simp at h⟩
def t_226 : TyD := { und := TypeDesc.func #[170] #[28] false, size := 1, bytes := 8, zero := [Value.nilFunc], fl := false }
theorem i_226 : TabE Tryz.prog (226, t_226, false) := ⟨by kernel_rfl, fun h => by simp at h⟩
def t_227 : TyD := { und := TypeDesc.func #[78, 81] #[4] false, size := 1, bytes := 8, zero := [Value.nilFunc], fl := false }
theorem i_227 : TabE Tryz.prog (227, t_227, false) := ⟨by kernel_rfl, fun h => by simp at h⟩
def t_228 : TyD := { und := TypeDesc.func #[74, 75, 28] #[2, 2] false, size := 1, bytes := 8, zero := [Value.nilFunc], fl := false }
theorem i_228 : TabE Tryz.prog (228, t_228, false) := ⟨by kernel_rfl, fun h => by simp at h⟩
def t_230 : TyD := { und := TypeDesc.func #[2, 2] #[2, 4] false, size := 1, bytes := 8, zero := [Value.nilFunc], fl := false }
theorem i_230 : TabE Tryz.prog (230, t_230, false) := ⟨by kernel_rfl, fun h => by simp at h⟩
def t_231 : TyD := { und := TypeDesc.func #[74] #[28] false, size := 1, bytes := 8, zero := [Value.nilFunc], fl := false }
theorem i_231 : TabE Tryz.prog (231, t_231, false) := ⟨by kernel_rfl, fun h => by simp at h⟩
def t_232 : TyD := { und := TypeDesc.func #[170, 172, 28, 2] #[28, 2] false, size := 1, bytes := 8, zero := [Value.nilFunc], fl := false }
theorem i_232 : TabE Tryz.prog (232, t_232, false) := ⟨by kernel_rfl, fun h => by simp at h⟩
def t_233 : TyD := { und := TypeDesc.func #[78, 2] #[4] false, size := 1, bytes := 8, zero := [Value.nilFunc], fl := false }
theorem i_233 : TabE Tryz.prog (233, t_233, false) := ⟨by kernel_rfl, fun h => by simp at h⟩
def t_234 : TyD := { und := TypeDesc.func #[74, 75, 28, 2] #[2] false, size := 1, bytes := 8, zero := [Value.nilFunc], fl := false }
theorem i_234 : TabE Tryz.prog (234, t_234, false) := ⟨by kernel_rfl, fun h => by simp at h⟩
def t_235 : TyD := { und := TypeDesc.func #[74, 3] #[28] false, size := 1, bytes := 8, zero := [Value.nilFunc], fl := false }
theorem i_235 : TabE Tryz.prog (235, t_235, false) := ⟨by kernel_rfl, fun h => by simp at h⟩
def t_236 : TyD := { und := TypeDesc.func #[74, 75, 28, 2] #[28] false, size := 1, bytes := 8, zero := [Value.nilFunc], fl := false }
theorem i_236 : TabE Tryz.prog (236, t_236, false) := ⟨by kernel_rfl, fun h => by simp at h⟩
def t_238 : TyD := { und := TypeDesc.func #[74, 28] #[2, 28] false, size := 1, bytes := 8, zero := [Value.nilFunc], fl := false }
theorem i_238 : TabE Tryz.prog (238, t_238, false) := ⟨by kernel_rfl, fun h => by simp at h⟩
def t_239 : TyD := { und := TypeDesc.func #[170, 28] #[2, 28, 2] false, size := 1, bytes := 8, zero := [Value.nilFunc], fl := false }
theorem i_239 : TabE Tryz.prog (239, t_239, false) := ⟨by kernel_rfl, fun h => by simp at h⟩
def t_240 : TyD := { und := TypeDesc.func #[] #[9] false, size := 1, bytes := 8, zero := [Value.nilFunc], fl := false }
theorem i_240 : TabE Tryz.prog (240, t_240, false) := ⟨by kernel_rfl, fun h => by simp at h⟩
def t_241 : TyD := { und := TypeDesc.struct #[{ name := "_interface", type := 17, offset := 0, embedded := false, tag := "", pkgPath := "runtime", byteOffset := 0 }, { name := "concrete", type := 17, offset := 1, embedded := false, tag := "", pkgPath := "runtime", byteOffset := 8 }, { name := "asserted", type := 17, offset := 2, embedded := false, tag := "", pkgPath := "runtime", byteOffset := 16 }, { name := "missingMethod", type := 9, offset := 3, embedded := false, tag := "", pkgPath := "runtime", byteOffset := 24 }], size := 4, bytes := 40, zero := [Value.pointer none, Value.pointer none, Value.pointer none, Value.string ⟨#[]⟩], fl := false }
theorem i_241 : TabE Tryz.prog (241, t_241, false) := ⟨by kernel_rfl, fun h => by simp at h⟩
def t_242 : TyD := { und := TypeDesc.struct #[{ name := "_interface", type := 17, offset := 0, embedded := false, tag := "", pkgPath := "runtime", byteOffset := 0 }, { name := "concrete", type := 17, offset := 1, embedded := false, tag := "", pkgPath := "runtime", byteOffset := 8 }, { name := "asserted", type := 17, offset := 2, embedded := false, tag := "", pkgPath := "runtime", byteOffset := 16 }, { name := "missingMethod", type := 9, offset := 3, embedded := false, tag := "", pkgPath := "runtime", byteOffset := 24 }], size := 4, bytes := 40, zero := [Value.pointer none, Value.pointer none, Value.pointer none, Value.string ⟨#[]⟩], fl := false }
theorem i_242 : TabE Tryz.prog (242, t_242, false) := ⟨by kernel_rfl, fun h => by simp at h⟩
def t_243 : TyD := { und := TypeDesc.array 0 16, size := 0, bytes := 0, zero := [], fl := false }
theorem i_243 : TabE Tryz.prog (243, t_243, false) := ⟨by kernel_rfl, fun h => by simp at h⟩
def t_244 : TyD := { und := TypeDesc.struct #[{ name := "_", type := 243, offset := 0, embedded := false, tag := "", pkgPath := "runtime", byteOffset := 0 }], size := 0, bytes := 0, zero := [], fl := false }
theorem i_244 : TabE Tryz.prog (244, t_244, false) := ⟨by kernel_rfl, fun h => by simp at h⟩
def t_245 : TyD := { und := TypeDesc.struct #[{ name := "_", type := 243, offset := 0, embedded := false, tag := "", pkgPath := "runtime", byteOffset := 0 }], size := 0, bytes := 0, zero := [], fl := false }
theorem i_245 : TabE Tryz.prog (245, t_245, false) := ⟨by kernel_rfl, fun h => by simp at h⟩
def t_246 : TyD := { und := TypeDesc.func #[] #[3] false, size := 1, bytes := 8, zero := [Value.nilFunc], fl := false }
theorem i_246 : TabE Tryz.prog (246, t_246, false) := ⟨by kernel_rfl, fun h => by simp at h⟩
def t_247 : TyD := { und := TypeDesc.int IntKind.u32, size := 1, bytes := 4, zero := [Value.int IntKind.u32 0], fl := true }
theorem i_247 : TabE Tryz.prog (247, t_247, false) := ⟨by kernel_rfl, fun h => by simp at h⟩
def t_248 : TyD := { und := TypeDesc.int IntKind.u8, size := 1, bytes := 1, zero := [Value.int IntKind.u8 0], fl := true }
theorem i_248 : TabE Tryz.prog (248, t_248, false) := ⟨by kernel_rfl, fun h => by simp at h⟩
def t_249 : TyD := { und := TypeDesc.int IntKind.u8, size := 1, bytes := 1, zero := [Value.int IntKind.u8 0], fl := true }
theorem i_249 : TabE Tryz.prog (249, t_249, false) := ⟨by kernel_rfl, fun h => by simp at h⟩
def t_250 : TyD := { und := TypeDesc.func #[256, 256] #[4] false, size := 1, bytes := 8, zero := [Value.nilFunc], fl := false }
theorem i_250 : TabE Tryz.prog (250, t_250, false) := ⟨by kernel_rfl, fun h => by simp at h⟩
def t_251 : TyD := { und := TypeDesc.pointer 5, size := 1, bytes := 8, zero := [Value.pointer none], fl := false }
theorem i_251 : TabE Tryz.prog (251, t_251, false) := ⟨by kernel_rfl, fun h => by simp at h⟩
def t_252 : TyD := { und := TypeDesc.int IntKind.i32, size := 1, bytes := 4, zero := [Value.int IntKind.i32 0], fl := true }
theorem i_252 : TabE Tryz.prog (252, t_252, false) := ⟨by kernel_rfl, fun h => by simp at h⟩
def t_253 : TyD := { und := TypeDesc.int IntKind.i32, size := 1, bytes := 4, zero := [Value.int IntKind.i32 0], fl := true }
theorem i_253 : TabE Tryz.prog (253, t_253, false) := ⟨by kernel_rfl, fun h => by simp at h⟩
def t_254 : TyD := { und := TypeDesc.struct #[{ name := "Size_", type := 12, offset := 0, embedded := false, tag := "", pkgPath := "", byteOffset := 0 }, { name := "PtrBytes", type := 12, offset := 1, embedded := false, tag := "", pkgPath := "", byteOffset := 8 }, { name := "Hash", type := 247, offset := 2, embedded := false, tag := "", pkgPath := "", byteOffset := 16 }, { name := "TFlag", type := 248, offset := 3, embedded := false, tag := "", pkgPath := "", byteOffset := 20 }, { name := "Align_", type := 5, offset := 4, embedded := false, tag := "", pkgPath := "", byteOffset := 21 }, { name := "FieldAlign_", type := 5, offset := 5, embedded := false, tag := "", pkgPath := "", byteOffset := 22 }, { name := "Kind_", type := 249, offset := 6, embedded := false, tag := "", pkgPath := "", byteOffset := 23 }, { name := "Equal", type := 250, offset := 7, embedded := false, tag := "", pkgPath := "", byteOffset := 24 }, { name := "GCData", type := 251, offset := 8, embedded := false, tag := "", pkgPath := "", byteOffset := 32 }, { name := "Str", type := 252, offset := 9, embedded := false, tag := "", pkgPath := "", byteOffset := 40 }, { name := "PtrToThis", type := 253, offset := 10, embedded := false, tag := "", pkgPath := "", byteOffset := 44 }], size := 11, bytes := 48, zero := [Value.int IntKind.u64 0, Value.int IntKind.u64 0, Value.int IntKind.u32 0, Value.int IntKind.u8 0, Value.int IntKind.u8 0, Value.int IntKind.u8 0, Value.int IntKind.u8 0, Value.nilFunc, Value.pointer none, Value.int IntKind.i32 0, Value.int IntKind.i32 0], fl := false }
theorem i_254 : TabE Tryz.prog (254, t_254, false) := ⟨by kernel_rfl, fun h => by simp at h⟩
def t_255 : TyD := { und := TypeDesc.struct #[{ name := "Size_", type := 12, offset := 0, embedded := false, tag := "", pkgPath := "", byteOffset := 0 }, { name := "PtrBytes", type := 12, offset := 1, embedded := false, tag := "", pkgPath := "", byteOffset := 8 }, { name := "Hash", type := 247, offset := 2, embedded := false, tag := "", pkgPath := "", byteOffset := 16 }, { name := "TFlag", type := 248, offset := 3, embedded := false, tag := "", pkgPath := "", byteOffset := 20 }, { name := "Align_", type := 5, offset := 4, embedded := false, tag := "", pkgPath := "", byteOffset := 21 }, { name := "FieldAlign_", type := 5, offset := 5, embedded := false, tag := "", pkgPath := "", byteOffset := 22 }, { name := "Kind_", type := 249, offset := 6, embedded := false, tag := "", pkgPath := "", byteOffset := 23 }, { name := "Equal", type := 250, offset := 7, embedded := false, tag := "", pkgPath := "", byteOffset := 24 }, { name := "GCData", type := 251, offset := 8, embedded := false, tag := "", pkgPath := "", byteOffset := 32 }, { name := "Str", type := 252, offset := 9, embedded := false, tag := "", pkgPath := "", byteOffset := 40 }, { name := "PtrToThis", type := 253, offset := 10, embedded := false, tag := "", pkgPath := "", byteOffset := 44 }], size := 11, bytes := 48, zero := [Value.int IntKind.u64 0, Value.int IntKind.u64 0, Value.int IntKind.u32 0, Value.int IntKind.u8 0, Value.int IntKind.u8 0, Value.int IntKind.u8 0, Value.int IntKind.u8 0, Value.nilFunc, Value.pointer none, Value.int IntKind.i32 0, Value.int IntKind.i32 0], fl := false }
theorem i_255 : TabE Tryz.prog (255, t_255, false) := ⟨by kernel_rfl, fun h => by simp at h⟩
def t_256 : TyD := { und := TypeDesc.unsafePointer, size := 1, bytes := 8, zero := [Value.pointer none], fl := false }
theorem i_256 : TabE Tryz.prog (256, t_256, false) := ⟨by kernel_rfl, fun h => by simp at h⟩
def tyTab : List (Nat × TyD × Bool) := [(1, t_1, false), (2, t_2, false), (3, t_3, false), (4, t_4, false), (5, t_5, false), (6, t_6, false), (7, t_7, true), (8, t_8, true), (9, t_9, false), (10, t_10, false), (11, t_11, false), (12, t_12, false), (13, t_13, false), (14, t_14, false), (15, t_15, false), (16, t_16, false), (17, t_17, false), (18, t_18, false), (19, t_19, false), (21, t_21, false), (22, t_22, false), (23, t_23, false), (24, t_24, false), (25, t_25, false), (26, t_26, false), (27, t_27, true), (28, t_28, true), (29, t_29, true), (30, t_30, true), (31, t_31, true), (32, t_32, true), (34, t_34, false), (35, t_35, false), (37, t_37, false), (38, t_38, false), (40, t_40, false), (41, t_41, false), (43, t_43, false), (44, t_44, false), (46, t_46, false), (48, t_48, false), (50, t_50, false), (51, t_51, false), (52, t_52, false), (53, t_53, true), (54, t_54, false), (55, t_55, true), (56, t_56, true), (57, t_57, true), (58, t_58, true), (59, t_59, false), (60, t_60, true), (61, t_61, true), (62, t_62, true), (63, t_63, true), (64, t_64, true), (65, t_65, true), (66, t_66, true), (67, t_67, true), (68, t_68, false), (69, t_69, false), (70, t_70, false), (71, t_71, false), (72, t_72, false), (73, t_73, true), (74, t_74, true), (75, t_75, true), (76, t_76, false), (77, t_77, true), (78, t_78, true), (79, t_79, false), (80, t_80, true), (81, t_81, true), (82, t_82, true), (83, t_83, true), (84, t_84, false), (85, t_85, false), (86, t_86, false), (87, t_87, false), (88, t_88, false), (89, t_89, false), (90, t_90, false), (91, t_91, false), (92, t_92, false), (93, t_93, false), (94, t_94, false), (95, t_95, false), (96, t_96, false), (97, t_97, true), (98, t_98, true), (99, t_99, false), (100, t_100, false), (101, t_101, false), (102, t_102, false), (103, t_103, false), (104, t_104, false), (105, t_105, false), (106, t_106, false), (107, t_107, false), (108, t_108, false), (109, t_109, false), (110, t_110, false), (111, t_111, false), (112, t_112, false), (113, t_113, false), (114, t_114, false), (115, t_115, false), (116, t_116, false), (117, t_117, false), (118, t_118, true), (119, t_119, true), (120, t_120, false), (121, t_121, false), (122, t_122, false), (123, t_123, false), (124, t_124, false), (125, t_125, false), (126, t_126, false), (127, t_127, false), (128, t_128, false), (129, t_129, false), (130, t_130, false), (131, t_131, false), (133, t_133, false), (134, t_134, false), (135, t_135, false), (136, t_136, false), (137, t_137, false), (138, t_138, false), (139, t_139, false), (140, t_140, false), (141, t_141, false), (142, t_142, false), (143, t_143, false), (144, t_144, false), (145, t_145, false), (146, t_146, false), (147, t_147, false), (148, t_148, true), (149, t_149, true), (150, t_150, false), (151, t_151, false), (152, t_152, false), (153, t_153, false), (154, t_154, false), (155, t_155, false), (156, t_156, false), (157, t_157, false), (158, t_158, false), (159, t_159, false), (160, t_160, false), (161, t_161, false), (162, t_162, false), (163, t_163, false), (164, t_164, false), (165, t_165, false), (166, t_166, false), (167, t_167, true), (168, t_168, true), (169, t_169, false), (170, t_170, false), (171, t_171, false), (172, t_172, false), (173, t_173, false), (174, t_174, true), (175, t_175, true), (176, t_176, false), (177, t_177, false), (178, t_178, false), (180, t_180, false), (181, t_181, false), (182, t_182, false), (183, t_183, false), (184, t_184, false), (185, t_185, false), (186, t_186, false), (187, t_187, false), (188, t_188, false), (189, t_189, false), (190, t_190, false), (191, t_191, false), (192, t_192, false), (193, t_193, false), (194, t_194, false), (195, t_195, false), (196, t_196, false), (197, t_197, false), (199, t_199, false), (200, t_200, false), (201, t_201, false), (202, t_202, false), (204, t_204, false), (205, t_205, false), (206, t_206, false), (207, t_207, false), (208, t_208, false), (209, t_209, false), (210, t_210, false), (211, t_211, false), (212, t_212, false), (214, t_214, false), (215, t_215, false), (216, t_216, false), (217, t_217, false), (218, t_218, false), (219, t_219, false), (220, t_220, false), (221, t_221, false), (222, t_222, false), (223, t_223, false), (224, t_224, false), (225, t_225, false), (226, t_226, false), (227, t_227, false), (228, t_228, false), (230, t_230, false), (231, t_231, false), (232, t_232, false), (233, t_233, false), (234, t_234, false), (235, t_235, false), (236, t_236, false), (238, t_238, false), (239, t_239, false), (240, t_240, false), (241, t_241, false), (242, t_242, false), (243, t_243, false), (244, t_244, false), (245, t_245, false), (246, t_246, false), (247, t_247, false), (248, t_248, false), (249, t_249, false), (250, t_250, false), (251, t_251, false), (252, t_252, false), (253, t_253, false), (254, t_254, false), (255, t_255, false), (256, t_256, false)]
@[reducible] def T0 : Ty := lookT tyTab
@[reducible] def Q0 : Nat → Bool := lookQ tyTab
theorem tabOk : TabOk Tryz.prog T0 Q0 := tab_ok (l := tyTab) (⟨i_1, i_2, i_3, i_4, i_5, i_6, i_7, i_8, i_9, i_10, i_11, i_12, i_13, i_14, i_15, i_16, i_17, i_18, i_19, i_21, i_22, i_23, i_24, i_25, i_26, i_27, i_28, i_29, i_30, i_31, i_32, i_34, i_35, i_37, i_38, i_40, i_41, i_43, i_44, i_46, i_48, i_50, i_51, i_52, i_53, i_54, i_55, i_56, i_57, i_58, i_59, i_60, i_61, i_62, i_63, i_64, i_65, i_66, i_67, i_68, i_69, i_70, i_71, i_72, i_73, i_74, i_75, i_76, i_77, i_78, i_79, i_80, i_81, i_82, i_83, i_84, i_85, i_86, i_87, i_88, i_89, i_90, i_91, i_92, i_93, i_94, i_95, i_96, i_97, i_98, i_99, i_100, i_101, i_102, i_103, i_104, i_105, i_106, i_107, i_108, i_109, i_110, i_111, i_112, i_113, i_114, i_115, i_116, i_117, i_118, i_119, i_120, i_121, i_122, i_123, i_124, i_125, i_126, i_127, i_128, i_129, i_130, i_131, i_133, i_134, i_135, i_136, i_137, i_138, i_139, i_140, i_141, i_142, i_143, i_144, i_145, i_146, i_147, i_148, i_149, i_150, i_151, i_152, i_153, i_154, i_155, i_156, i_157, i_158, i_159, i_160, i_161, i_162, i_163, i_164, i_165, i_166, i_167, i_168, i_169, i_170, i_171, i_172, i_173, i_174, i_175, i_176, i_177, i_178, i_180, i_181, i_182, i_183, i_184, i_185, i_186, i_187, i_188, i_189, i_190, i_191, i_192, i_193, i_194, i_195, i_196, i_197, i_199, i_200, i_201, i_202, i_204, i_205, i_206, i_207, i_208, i_209, i_210, i_211, i_212, i_214, i_215, i_216, i_217, i_218, i_219, i_220, i_221, i_222, i_223, i_224, i_225, i_226, i_227, i_228, i_230, i_231, i_232, i_233, i_234, i_235, i_236, i_238, i_239, i_240, i_241, i_242, i_243, i_244, i_245, i_246, i_247, i_248, i_249, i_250, i_251, i_252, i_253, i_254, i_255, i_256, trivial⟩)
end Go.Proofs.YtonnkpclllmkoaaGreat.Eng
set_option linter.unusedVariables false
set_option linter.unusedSimpArgs false
namespace Go.Proofs.YtonnkpclllmkoaaGreat.Eng
open Go Go.RowKit
set_option maxRecDepth 100000
theorem tmod_lt {a b : Int} (h : b ≠ 0) : (a.tmod b).natAbs < b.natAbs := by
  rw [Int.natAbs_tmod]; exact Nat.mod_lt _ (by omega)
theorem gcd_tmod {a b : Int} : Int.gcd b (a.tmod b) = Int.gcd a b := by
  simp only [Int.gcd, Int.natAbs_tmod]
  rw [Nat.gcd_comm, ← Nat.gcd_rec, Nat.gcd_comm]
theorem seg_get {α : Type} {l : List α} {s n i : Nat} {a : α} (h : (seg l s n)[i]? = some a) : l[s + i]? = some a ∧ i < n := by
  unfold seg at h
  rw [List.getElem?_take] at h
  split at h
  · rw [List.getElem?_drop] at h; exact ⟨h, by assumption⟩
  · simp at h
theorem seg_len {α : Type} {l : List α} {s n : Nat} (h : s + n ≤ l.length) : (seg l s n).length = n := by
  simp [seg]; omega
theorem atL_i {α : Type} {l : List α} {s n i : Nat} {a : α} {K : α → Prop} (ha : (seg l s n)[i]? = some a) (h : K a) : atL l (s + ((i : Nat) : Int).toNat) K :=
  atL_iff.2 ⟨a, by simpa using (seg_get ha).1, h⟩
theorem atL_0 {α : Type} {l : List α} {i : Nat} {a : α} {K : α → Prop} (ha : l[i]? = some a) (h : K a) : atL l (0 + ((i : Nat) : Int).toNat) K :=
  atL_iff.2 ⟨a, by simpa using ha, h⟩
theorem atL_n {α : Type} {l : List α} {i : Nat} {a : α} {K : α → Prop} (ha : l[i]? = some a) (h : K a) : atL l ((i : Nat) : Int).toNat K :=
  atL_iff.2 ⟨a, by simpa using ha, h⟩
theorem atL_p {α : Type} {l : List α} {i : Nat} {a : α} {K : α → Prop} (ha : l[i]? = some a) (h : K a) : atL l i K := atL_iff.2 ⟨a, ha, h⟩
theorem atL_e {α : Type} {l : List α} {i j : Nat} {a : α} {K : α → Prop} (e : i = j) (ha : l[j]? = some a) (h : K a) : atL l i K := by subst e; exact atL_iff.2 ⟨a, ha, h⟩
theorem seg_all {α : Type} (l : List α) : seg l 0 l.length = l := by simp [seg]
theorem seg_full {α : Type} {l : List α} {n : Nat} (h : l.length = n) : seg l 0 n = l := by simp [seg, ← h]
theorem get_some {α : Type} {l : List α} {i : Nat} (h : i < l.length) : ∃ a, l[i]? = some a := ⟨l[i], by simp [h]⟩
/-- The first place where p holds, or -1. -/
def findI {α : Type} (p : α → Bool) (l : List α) : Int := if l.any p = true then (l.findIdx p : Int) else -1
theorem findI_none {α : Type} {p : α → Bool} {l : List α} (h : ∀ (j : Nat) a, l[j]? = some a → p a = false) : findI p l = -1 := by
  unfold findI
  rw [if_neg]
  rw [List.any_eq_true]
  rintro ⟨a, ha, hp⟩
  obtain ⟨j, hj⟩ := List.getElem?_of_mem ha
  rw [h j a hj] at hp; simp at hp
theorem findI_some {α : Type} {p : α → Bool} {l : List α} {i : Nat} {a : α} (ha : l[i]? = some a) (hp : p a = true) (h : ∀ (j : Nat) a, j < i → l[j]? = some a → p a = false) : findI p l = i := by
  unfold findI
  rw [if_pos (List.any_eq_true.2 ⟨a, List.mem_of_getElem? ha, hp⟩)]
  obtain ⟨hi, e⟩ := List.getElem?_eq_some_iff.1 ha
  have : l.findIdx p = i := by
    rw [List.findIdx_eq hi]
    exact ⟨by rw [e]; exact hp, fun j hj => h j _ hj (by simp)⟩
  rw [this]
theorem findI_any {α : Type} (p : α → Bool) (l : List α) : decide (0 ≤ findI p l) = l.any p := by
  unfold findI
  split
  · rename_i h; rw [h]; simp
  · rename_i h
    have : l.any p = false := by simpa using h
    rw [this]; rfl
theorem app_take {α : Type} {D : List α} {i : Nat} {w : α} (h : D[i]? = some w) : seg (D.take i) 0 i ++ seg [w] 0 1 = D.take (i + 1) := by
  have hl := (List.getElem?_eq_some_iff.1 h).1
  rw [seg_full (by rw [List.length_take]; omega), List.take_add_one, h]; rfl
/-- Filling a row from the left. -/
theorem fill_step {α : Type} {L : List α} {z a : α} {i n : Nat} (hn : L.length = n) (ha : L[i]? = some a) : (L.take i ++ List.replicate (n - i) z).set i a = L.take (i + 1) ++ List.replicate (n - (i + 1)) z := by
  obtain ⟨hi, e⟩ := List.getElem?_eq_some_iff.1 ha
  have h1 : (L.take i).length = i := by simp; omega
  rw [List.set_append_right _ _ (by omega), h1, Nat.sub_self, show n - i = (n - (i + 1)) + 1 by omega, List.replicate_succ, List.set_cons_zero]
  rw [List.take_add_one, ha]; simp
theorem fill_at {α : Type} {L : List α} {z : α} {i n : Nat} (hn : L.length = n) (hi : i < n) : (L.take i ++ List.replicate (n - i) z)[i]? = some z := by
  have h1 : (L.take i).length = i := by simp; omega
  rw [List.getElem?_append_right (by omega), h1, Nat.sub_self, List.getElem?_replicate, if_pos (by omega)]
theorem fill_end {α : Type} {L : List α} {z : α} {n : Nat} (hn : L.length = n) : L.take n ++ List.replicate (n - n) z = L := by
  simp [← hn]
/-- Two rows alike so far. -/
theorem same_end {α : Type} {L M : List α} {n : Nat} (h1 : L.length = n) (h2 : M.length = n) (h : L.take n = M.take n) : L = M := by
  rwa [List.take_of_length_le (by omega), List.take_of_length_le (by omega)] at h
theorem same_step {α : Type} {L M : List α} {i : Nat} {a b : α} (ha : L[i]? = some a) (hb : M[i]? = some b) (h : L.take i = M.take i) (hab : a = b) : L.take (i + 1) = M.take (i + 1) := by
  rw [List.take_add_one, List.take_add_one, h, ha, hb, hab]
theorem same_not {α : Type} {L M : List α} {i : Nat} {a b : α} (ha : L[i]? = some a) (hb : M[i]? = some b) (hab : a ≠ b) : L ≠ M := by
  rintro rfl
  rw [ha] at hb; exact hab (Option.some.inj hb)
/-- One more place where something holds. -/
theorem upto_step {α : Type} {p : α → Prop} {L : List α} {i : Nat} {a : α} (ha : L[i]? = some a) (hp : p a) (h : ∀ (j : Nat) b, j < i → L[j]? = some b → p b) : ∀ (j : Nat) b, j < i + 1 → L[j]? = some b → p b := fun j b hj hb => by
  by_cases e : j < i
  · exact h j b e hb
  · obtain rfl : j = i := by omega
    rw [ha] at hb; obtain rfl := Option.some.inj hb; exact hp
/-- Tests whose outcome is known. -/
theorem splitT_of {b : Bool} {A B : Prop} (h : b = true) (k : A) : splitB b A B := by subst h; exact splitT k
theorem splitF_of {b : Bool} {A B : Prop} (h : b = false) (k : B) : splitB b A B := by subst h; exact splitF k
theorem seg_take {α : Type} {l : List α} {s m i : Nat} (hi : i ≤ m) : seg l s i = (seg l s m).take i := by
  unfold seg; rw [List.take_take]; congr 1; omega
theorem any_take {α : Type} {p : α → Bool} {L : List α} {i j : Nat} {b : α} (hb : L[j]? = some b) (hj : j < i) (h : p b = true) : (L.take i).any p = true := by
  rw [List.any_eq_true]
  exact ⟨b, List.mem_of_getElem? (i := j) (by rw [List.getElem?_take, if_pos hj]; exact hb), h⟩
theorem any_no {α : Type} {p : α → Bool} {L : List α} (h : ∀ (k : Nat) a, L[k]? = some a → p a = false) : L.any p = false := by
  rw [List.any_eq_false]
  intro a ha
  obtain ⟨j, hj⟩ := List.getElem?_of_mem ha
  rw [h j a hj]; simp
/-- All elements with their places. -/
def allI {α : Type} (d : α) (f : Nat → α → Bool) (E : List α) : Bool := (List.range E.length).all fun k : Nat => f k ((E[k]?).getD d)
theorem allI_yes {α : Type} {d : α} {f : Nat → α → Bool} {E : List α} {n : Nat} (hn : E.length = n) (h : ∀ (k : Nat) a, k < n → E[k]? = some a → f k a = true) : allI d f E = true := by
  unfold allI
  rw [List.all_eq_true]
  intro k hk
  rw [List.mem_range] at hk
  obtain ⟨a, ha⟩ : ∃ a, E[k]? = some a := ⟨E[k], by simp [hk]⟩
  rw [ha]; exact h k a (by omega) ha
theorem allI_no {α : Type} {d : α} {f : Nat → α → Bool} {E : List α} {k : Nat} {a : α} (ha : E[k]? = some a) (h : f k a = false) : allI d f E = false := by
  unfold allI
  rw [List.all_eq_false]
  have := (List.getElem?_eq_some_iff.1 ha).1
  exact ⟨k, List.mem_range.2 this, by rw [ha]; simp [h]⟩
theorem allI_at {α : Type} {d : α} {f : Nat → α → Bool} {E : List α} (h : allI d f E = true) {k : Nat} {a : α} (ha : E[k]? = some a) : f k a = true := by
  unfold allI at h
  rw [List.all_eq_true] at h
  have := h k (List.mem_range.2 (List.getElem?_eq_some_iff.1 ha).1)
  rwa [ha] at this
theorem allI_iff {α : Type} {d : α} {f : Nat → α → Bool} {E : List α} : allI d f E = true ↔ ∀ (k : Nat) a, E[k]? = some a → f k a = true :=
  ⟨fun h k a ha => allI_at h ha, fun h => allI_yes rfl fun k a _ ha => h k a ha⟩
theorem allI_snoc {α : Type} {d : α} {f : Nat → α → Bool} {L : List α} {i : Nat} {a : α} (ha : L[i]? = some a) : allI d f (L.take (i + 1)) = (allI d f (L.take i) && f i a) := by
  rw [Bool.eq_iff_iff, Bool.and_eq_true, allI_iff, allI_iff]
  constructor
  · intro h
    refine ⟨fun k b hb => h k b ?_, h i a (by rw [List.getElem?_take, if_pos (by omega)]; exact ha)⟩
    rw [List.getElem?_take] at hb ⊢
    split at hb
    · rw [if_pos (by omega)]; exact hb
    · simp at hb
  · rintro ⟨h1, h2⟩ k b hb
    rw [List.getElem?_take] at hb
    split at hb
    · by_cases e : k = i
      · subst e; rw [ha] at hb; obtain rfl := Option.some.inj hb; exact h2
      · exact h1 k b (by rw [List.getElem?_take, if_pos (by omega)]; exact hb)
    · simp at hb
theorem upto_step2 {α : Type} {p : Nat → α → Prop} {L : List α} {i : Nat} {a : α} (ha : L[i]? = some a) (hp : p i a) (h : ∀ (j : Nat) b, j < i → L[j]? = some b → p j b) : ∀ (j : Nat) b, j < i + 1 → L[j]? = some b → p j b := fun j b hj hb => by
  by_cases e : j < i
  · exact h j b e hb
  · obtain rfl : j = i := by omega
    rw [ha] at hb; obtain rfl := Option.some.inj hb; exact hp
def s_within : Spec := fun args S => match args, S with
  | [.int .i64 n, .int .i64 a, .int .i64 b], [] => ⟨True, .bool (decide (a ≤ n ∧ n ≤ b)), []⟩
  | _, _ => noSpec
theorem ok_within : SpecOk Tryz.prog 101 s_within := by
  intro args S h; unfold s_within at h ⊢; (split at h <;> first | exact False.elim h | skip)
  dsimp only at h ⊢
  refine funW tabOk (E := []) trivial [] (k := 0) (fn := Tryz.f101) rfl rfl rfl rfl rfl rfl ?_
  (repeat' ((try (conv => whnf)); first | (with_reducible first | refine And.intro ?_ ?_ | refine WX.of ?_) | exact zc | ((with_reducible refine VC.mk ?_); exact zw) | (with_reducible first | refine splitT ?_ | refine splitF ?_) | ((with_reducible refine splitM.mk (fun hsm => ?_) (fun hsm => ?_)) <;> (try exact zx)) | ((with_reducible refine splitB.mk (fun h => ?_) (fun h => ?_)) <;> (try simp only [zs, ne_eq] at h) <;> (try simp (disch := omega) only [w64] at h) <;> (try exact zx)) | (with_reducible intro hz; (try exact absurd hz (Nat.succ_ne_zero _)))))
  all_goals (first | exact ⟨rfl⟩ | (refine ⟨?_⟩; simp_all; done) | (refine ⟨?_⟩; simp_all; omega))
theorem ok_l00In : SpecOk Tryz.prog 112 s_within := by
  intro args S h; unfold s_within at h ⊢; (split at h <;> first | exact False.elim h | skip)
  dsimp only at h ⊢
  refine funW tabOk (E := []) trivial [] (k := 0) (fn := Tryz.f112) rfl rfl rfl rfl rfl rfl ?_
  (repeat' ((try (conv => whnf)); first | (with_reducible first | refine And.intro ?_ ?_ | refine WX.of ?_) | exact zc | ((with_reducible refine VC.mk ?_); exact zw) | (with_reducible first | refine splitT ?_ | refine splitF ?_) | ((with_reducible refine splitM.mk (fun hsm => ?_) (fun hsm => ?_)) <;> (try exact zx)) | ((with_reducible refine splitB.mk (fun h => ?_) (fun h => ?_)) <;> (try simp only [zs, ne_eq] at h) <;> (try simp (disch := omega) only [w64] at h) <;> (try exact zx)) | (with_reducible intro hz; (try exact absurd hz (Nat.succ_ne_zero _)))))
  all_goals (first | exact ⟨rfl⟩ | (refine ⟨?_⟩; simp_all; done) | (refine ⟨?_⟩; simp_all; omega))
/-- The sizes of all elements. -/
def tot {α : Type} (f : α → Nat) (l : List α) : Nat := (l.map f).sum
theorem tot_step {α : Type} {f : α → Nat} {L : List α} {i : Nat} {a : α} (h : L[i]? = some a) : tot f (L.take (i + 1)) = tot f (L.take i) + f a := by
  unfold tot; rw [List.take_add_one, h]; simp
theorem tot_le {α : Type} {f : α → Nat} {L : List α} (i : Nat) : tot f (L.take i) ≤ tot f L := by
  have h : tot f L = tot f (L.take i) + tot f (L.drop i) := by
    unfold tot; rw [← List.sum_append, ← List.map_append, List.take_append_drop]
  omega
theorem tot_at {α : Type} {f : α → Nat} {L : List α} {i : Nat} {a : α} (h : L[i]? = some a) : f a ≤ tot f L := by
  have h1 := tot_step (f := f) h
  have h2 := tot_le (f := f) (L := L) (i + 1)
  omega
def s_gcd : Spec := fun args S => match args, S with
  | [.int .i64 a, .int .i64 b], [] => ⟨-9223372036854775808 < a ∧ a < 9223372036854775808 ∧ -9223372036854775808 < b ∧ b < 9223372036854775808, .int .i64 (Int.gcd a b), []⟩
  | _, _ => noSpec
theorem ok_gcd : SpecOk Tryz.prog 144 s_gcd := by
  intro args S h; unfold s_gcd at h ⊢; (split at h <;> first | exact False.elim h | skip)
  dsimp only at h ⊢
  rename_i a b
  refine funW tabOk (E := []) trivial [] (k := 0) (fn := Tryz.f144) rfl rfl rfl rfl rfl rfl ?_
  (repeat' ((try (conv => whnf)); first | (with_reducible first | refine And.intro ?_ ?_ | refine WX.of ?_) | exact zc | ((with_reducible refine VC.mk ?_); exact zw) | (with_reducible first | refine splitT ?_ | refine splitF ?_) | ((with_reducible refine splitM.mk (fun hsm => ?_) (fun hsm => ?_)) <;> (try exact zx)) | ((with_reducible refine splitB.mk (fun h => ?_) (fun h => ?_)) <;> (try simp only [zs, ne_eq] at h) <;> (try simp (disch := omega) only [w64] at h) <;> (try exact zx)) | (with_reducible intro hz; (try exact absurd hz (Nat.succ_ne_zero _)))))
  refine loopW tabOk (E := []) trivial [] (σ := Int × Int) (fun s => [(0, .int .i64 s.1), (1, .int .i64 s.2)]) (fun _ => []) (fun s => s.2.natAbs) (fun s => Int.gcd s.1 s.2 = Int.gcd a b ∧ -9223372036854775808 < s.1 ∧ s.1 < 9223372036854775808 ∧ -9223372036854775808 < s.2 ∧ s.2 < 9223372036854775808) (a, b) ⟨rfl, h⟩ ?_ ?_
  · (repeat' ((try (conv => whnf)); first | (with_reducible first | refine And.intro ?_ ?_ | refine WX.of ?_) | exact zc | ((with_reducible refine VC.mk ?_); exact zw) | (with_reducible first | refine splitT ?_ | refine splitF ?_) | ((with_reducible refine splitM.mk (fun hsm => ?_) (fun hsm => ?_)) <;> (try exact zx)) | ((with_reducible refine splitB.mk (fun h => ?_) (fun h => ?_)) <;> (try simp only [zs, ne_eq] at h) <;> (try simp (disch := omega) only [w64] at h) <;> (try exact zx)) | (with_reducible intro hz; (try exact absurd hz (Nat.succ_ne_zero _)))))
  · rintro ⟨x, y⟩ ⟨hg, hr⟩
    dsimp only at hg hr
    (repeat' ((try (conv => whnf)); first | (with_reducible first | refine And.intro ?_ ?_ | refine WX.of ?_) | exact zc | ((with_reducible refine VC.mk ?_); exact zw) | (with_reducible first | refine splitT ?_ | refine splitF ?_) | ((with_reducible refine splitM.mk (fun hsm => ?_) (fun hsm => ?_)) <;> (try exact zx)) | ((with_reducible refine splitB.mk (fun h => ?_) (fun h => ?_)) <;> (try simp only [zs, ne_eq] at h) <;> (try simp (disch := omega) only [w64] at h) <;> (try exact zx)) | (with_reducible intro hz; (try exact absurd hz (Nat.succ_ne_zero _)))))
    · have := tmod_lt (a := x) h
      refine ⟨(y, x.tmod y), this, ⟨by rw [← hg]; exact gcd_tmod, ?_⟩, ?_⟩
      · dsimp only; omega
      · (repeat' ((try (conv => whnf)); first | (with_reducible first | refine And.intro ?_ ?_ | refine WX.of ?_) | exact zc | ((with_reducible refine VC.mk ?_); exact zw) | (with_reducible first | refine splitT ?_ | refine splitF ?_) | ((with_reducible refine splitM.mk (fun hsm => ?_) (fun hsm => ?_)) <;> (try exact zx)) | ((with_reducible refine splitB.mk (fun h => ?_) (fun h => ?_)) <;> (try simp only [zs, ne_eq] at h) <;> (try simp (disch := omega) only [w64] at h) <;> (try exact zx)) | (with_reducible intro hz; (try exact absurd hz (Nat.succ_ne_zero _)))))
    · subst h
      simp at hg
      dsimp only
      rw [w64 (by omega)]
      refine ⟨?_⟩
      rw [← hg]
      congr 1
      split <;> omega
def s_abs : Spec := fun args S => match args, S with
  | [.int .i64 n], [] => ⟨-9223372036854775808 < n ∧ n < 9223372036854775808, .int .i64 (n.natAbs : Int), []⟩
  | _, _ => noSpec
theorem ok_l01Abs : SpecOk Tryz.prog 153 s_abs := by
  intro args S h; unfold s_abs at h ⊢; (split at h <;> first | exact False.elim h | skip)
  dsimp only at h ⊢
  refine funW tabOk (E := []) trivial [] (k := 0) (fn := Tryz.f153) rfl rfl rfl rfl rfl rfl ?_
  (repeat' ((try (conv => whnf)); first | (with_reducible first | refine And.intro ?_ ?_ | refine WX.of ?_) | exact zc | ((with_reducible refine VC.mk ?_); exact zw) | (with_reducible first | refine splitT ?_ | refine splitF ?_) | ((with_reducible refine splitM.mk (fun hsm => ?_) (fun hsm => ?_)) <;> (try exact zx)) | ((with_reducible refine splitB.mk (fun h => ?_) (fun h => ?_)) <;> (try simp only [zs, ne_eq] at h) <;> (try simp (disch := omega) only [w64] at h) <;> (try exact zx)) | (with_reducible intro hz; (try exact absurd hz (Nat.succ_ne_zero _)))))
def s_gcdN : Spec := fun args S => match args, S with
  | [.int .i64 a, .int .i64 b], [] => ⟨0 ≤ a ∧ a < 9223372036854775808 ∧ 0 ≤ b ∧ b < 9223372036854775808, .int .i64 (Int.gcd a b), []⟩
  | _, _ => noSpec
theorem ok_l01Gcd : SpecOk Tryz.prog 152 s_gcdN := by
  intro args S h; unfold s_gcdN at h ⊢; (split at h <;> first | exact False.elim h | skip)
  dsimp only at h ⊢
  rename_i a b
  refine funW tabOk (E := []) trivial [] (k := 0) (fn := Tryz.f152) rfl rfl rfl rfl rfl rfl ?_
  (repeat' ((try (conv => whnf)); first | (with_reducible first | refine And.intro ?_ ?_ | refine WX.of ?_) | exact zc | ((with_reducible refine VC.mk ?_); exact zw) | (with_reducible first | refine splitT ?_ | refine splitF ?_) | ((with_reducible refine splitM.mk (fun hsm => ?_) (fun hsm => ?_)) <;> (try exact zx)) | ((with_reducible refine splitB.mk (fun h => ?_) (fun h => ?_)) <;> (try simp only [zs, ne_eq] at h) <;> (try simp (disch := omega) only [w64] at h) <;> (try exact zx)) | (with_reducible intro hz; (try exact absurd hz (Nat.succ_ne_zero _)))))
  refine loopW tabOk (E := []) trivial [] (σ := Int × Int) (fun s => [(0, .int .i64 s.1), (1, .int .i64 s.2)]) (fun _ => []) (fun s => s.2.natAbs) (fun s => Int.gcd s.1 s.2 = Int.gcd a b ∧ 0 ≤ s.1 ∧ s.1 < 9223372036854775808 ∧ 0 ≤ s.2 ∧ s.2 < 9223372036854775808) (a, b) ⟨rfl, h⟩ ?_ ?_
  · (repeat' ((try (conv => whnf)); first | (with_reducible first | refine And.intro ?_ ?_ | refine WX.of ?_) | exact zc | ((with_reducible refine VC.mk ?_); exact zw) | (with_reducible first | refine splitT ?_ | refine splitF ?_) | ((with_reducible refine splitM.mk (fun hsm => ?_) (fun hsm => ?_)) <;> (try exact zx)) | ((with_reducible refine splitB.mk (fun h => ?_) (fun h => ?_)) <;> (try simp only [zs, ne_eq] at h) <;> (try simp (disch := omega) only [w64] at h) <;> (try exact zx)) | (with_reducible intro hz; (try exact absurd hz (Nat.succ_ne_zero _)))))
  · rintro ⟨x, y⟩ ⟨hg, hr⟩
    dsimp only at hg hr
    (repeat' ((try (conv => whnf)); first | (with_reducible first | refine And.intro ?_ ?_ | refine WX.of ?_) | exact zc | ((with_reducible refine VC.mk ?_); exact zw) | (with_reducible first | refine splitT ?_ | refine splitF ?_) | ((with_reducible refine splitM.mk (fun hsm => ?_) (fun hsm => ?_)) <;> (try exact zx)) | ((with_reducible refine splitB.mk (fun h => ?_) (fun h => ?_)) <;> (try simp only [zs, ne_eq] at h) <;> (try simp (disch := omega) only [w64] at h) <;> (try exact zx)) | (with_reducible intro hz; (try exact absurd hz (Nat.succ_ne_zero _)))))
    · have := tmod_lt (a := x) h
      have h2 := Int.tmod_nonneg y hr.1
      refine ⟨(y, x.tmod y), this, ⟨by rw [← hg]; exact gcd_tmod, ?_⟩, ?_⟩
      · dsimp only; omega
      · (repeat' ((try (conv => whnf)); first | (with_reducible first | refine And.intro ?_ ?_ | refine WX.of ?_) | exact zc | ((with_reducible refine VC.mk ?_); exact zw) | (with_reducible first | refine splitT ?_ | refine splitF ?_) | ((with_reducible refine splitM.mk (fun hsm => ?_) (fun hsm => ?_)) <;> (try exact zx)) | ((with_reducible refine splitB.mk (fun h => ?_) (fun h => ?_)) <;> (try simp only [zs, ne_eq] at h) <;> (try simp (disch := omega) only [w64] at h) <;> (try exact zx)) | (with_reducible intro hz; (try exact absurd hz (Nat.succ_ne_zero _)))))
    · subst h
      simp at hg
      refine ⟨?_⟩
      dsimp only
      rw [← hg]
      congr 1
      omega
/-- A valid fraction. -/
def fOk (p q : Int) : Bool := decide (1 ≤ q ∧ q ≤ 1000000000 ∧ -1000000000 ≤ p ∧ p ≤ 1000000000 ∧ Int.gcd p q = 1)
theorem fOk_iff {p q : Int} : fOk p q = true ↔ 1 ≤ q ∧ q ≤ 1000000000 ∧ -1000000000 ≤ p ∧ p ≤ 1000000000 ∧ Int.gcd p q = 1 := by simp [fOk]
def s_fOk : Spec := fun args S => match args, S with
  | [.agg [.int .i64 p, .int .i64 q]], [] => ⟨True, .bool (fOk p q), []⟩
  | _, _ => noSpec
theorem gcd_abs (p q : Int) : Int.gcd (p.natAbs : Int) q = Int.gcd p q := by simp [Int.gcd]
theorem ok_ValidFrac : SpecOk Tryz.prog 102 s_fOk := by
  intro args S h; unfold s_fOk at h ⊢; (split at h <;> first | exact False.elim h | skip)
  dsimp only at h ⊢
  refine funW tabOk (E := [(101, s_within), (144, s_gcd)]) ⟨ok_within, ok_gcd, trivial⟩ [] (k := 0) (fn := Tryz.f102) rfl rfl rfl rfl rfl rfl ?_
  (repeat' ((try (conv => whnf)); first | (with_reducible first | refine And.intro ?_ ?_ | refine WX.of ?_) | exact zc | ((with_reducible refine VC.mk ?_); exact zw) | (with_reducible first | refine splitT ?_ | refine splitF ?_) | ((with_reducible refine splitM.mk (fun hsm => ?_) (fun hsm => ?_)) <;> (try exact zx)) | ((with_reducible refine splitB.mk (fun h => ?_) (fun h => ?_)) <;> (try simp only [zs, ne_eq] at h) <;> (try simp (disch := omega) only [w64] at h) <;> (try exact zx)) | (with_reducible intro hz; (try exact absurd hz (Nat.succ_ne_zero _)))))
  all_goals (refine ⟨congrArg SV.bool ?_⟩; (try dsimp only); (try simp (disch := omega) only [w64]); rw [Bool.eq_iff_iff]; try (simp [fOk]); try omega)
theorem ok_l01Ok : SpecOk Tryz.prog 146 s_fOk := by
  intro args S h; unfold s_fOk at h ⊢; (split at h <;> first | exact False.elim h | skip)
  dsimp only at h ⊢
  refine funW tabOk (E := [(112, s_within), (152, s_gcdN), (153, s_abs)]) ⟨ok_l00In, ok_l01Gcd, ok_l01Abs, trivial⟩ [(1, [(13, 2)])] (k := 0) (fn := Tryz.f146) rfl rfl rfl rfl rfl rfl ?_
  (repeat' ((try (conv => whnf)); first | (with_reducible first | refine And.intro ?_ ?_ | refine WX.of ?_) | exact zc | ((with_reducible refine VC.mk ?_); exact zw) | (with_reducible first | refine splitT ?_ | refine splitF ?_) | ((with_reducible refine splitM.mk (fun hsm => ?_) (fun hsm => ?_)) <;> (try exact zx)) | ((with_reducible refine splitB.mk (fun h => ?_) (fun h => ?_)) <;> (try simp only [zs, ne_eq] at h) <;> (try simp (disch := omega) only [w64] at h) <;> (try exact zx)) | (with_reducible intro hz; (try exact absurd hz (Nat.succ_ne_zero _)))))
  all_goals (refine ⟨congrArg SV.bool ?_⟩; (try dsimp only); (try simp (disch := omega) only [w64]); rw [Bool.eq_iff_iff]; try (simp [fOk, gcd_abs]); try omega)
/-- The reduced fraction. -/
def redG (p q : Int) : Int := (Int.gcd p q : Int)
def redP (p q : Int) : Int := if q < 0 then -(p / redG p q) else p / redG p q
def redQ (p q : Int) : Int := if q < 0 then -(q / redG p q) else q / redG p q
def redOk (p q : Int) : Bool := fOk (redP p q) (redQ p q)
theorem redG_pos {p q : Int} (h : q ≠ 0) : 0 < redG p q := by
  unfold redG
  have : 0 < Int.gcd p q := Int.gcd_pos_of_ne_zero_right _ h
  omega
theorem redG_le {p q M : Int} (h : q ≠ 0) (hq : -M ≤ q ∧ q ≤ M) : redG p q ≤ M := by
  unfold redG
  have := Nat.le_of_dvd (by omega) (Nat.gcd_dvd_right p.natAbs q.natAbs)
  have e : Int.gcd p q = Nat.gcd p.natAbs q.natAbs := rfl
  omega
theorem ediv_small {p g M : Int} (hg : 0 < g) (h : -M ≤ p ∧ p ≤ M) : -M ≤ p / g ∧ p / g ≤ M := by
  have h0 : 0 ≤ M := by omega
  refine ⟨?_, ?_⟩
  · rw [Int.le_ediv_iff_mul_le hg]
    have : M ≤ M * g := by have := Int.mul_le_mul_of_nonneg_left (show 1 ≤ g by omega) h0; omega
    rw [Int.neg_mul]; omega
  · have := Int.ediv_le_ediv hg h.2
    have := Int.ediv_le_self g h0
    omega
theorem red_p {p q : Int} : p.tdiv (redG p q) = p / redG p q := Int.tdiv_eq_ediv_of_dvd (Int.gcd_dvd_left ..)
theorem red_q {p q : Int} : q.tdiv (redG p q) = q / redG p q := Int.tdiv_eq_ediv_of_dvd (Int.gcd_dvd_right ..)
theorem red_np {p q : Int} : (-p).tdiv (redG p q) = -(p / redG p q) := by rw [Int.neg_tdiv, red_p]
theorem red_nq {p q : Int} : (-q).tdiv (redG p q) = -(q / redG p q) := by rw [Int.neg_tdiv, red_q]
theorem red_bound {p q : Int} (h : q ≠ 0) (hp : -9223372036854775807 ≤ p ∧ p ≤ 9223372036854775807) (hq : -9223372036854775807 ≤ q ∧ q ≤ 9223372036854775807) :
    (-9223372036854775807 ≤ p / redG p q ∧ p / redG p q ≤ 9223372036854775807) ∧ (-9223372036854775807 ≤ q / redG p q ∧ q / redG p q ≤ 9223372036854775807) :=
  ⟨ediv_small (redG_pos h) hp, ediv_small (redG_pos h) hq⟩
/-- The sign of the reduced denominator. -/
theorem red_sign {p q : Int} (h : q ≠ 0) : (q / redG p q < 0 ↔ q < 0) := by
  have hg := redG_pos (p := p) h
  constructor
  · intro h1
    have := Int.ediv_mul_cancel (a := q) (b := redG p q) (Int.gcd_dvd_right ..)
    have h2 : q / redG p q * redG p q < 0 := Int.mul_neg_of_neg_of_pos h1 hg
    omega
  · intro h1
    have := Int.ediv_mul_cancel (a := q) (b := redG p q) (Int.gcd_dvd_right ..)
    apply Classical.byContradiction; intro h2
    have h3 : 0 ≤ q / redG p q * redG p q := Int.mul_nonneg (by omega) (by omega)
    omega
def s_red : Spec := fun args S => match args, S with
  | [.int .i64 p, .int .i64 q], [] => ⟨q ≠ 0 ∧ (-9223372036854775807 ≤ p ∧ p ≤ 9223372036854775807) ∧ (-9223372036854775807 ≤ q ∧ q ≤ 9223372036854775807), .tup [.agg [.int .i64 (if redOk p q = true then redP p q else 0), .int .i64 (if redOk p q = true then redQ p q else 0)], .int .i64 (if redOk p q = true then 0 else 3)], []⟩
  | _, _ => noSpec
theorem ok_l01Reduced : SpecOk Tryz.prog 113 s_red := by
  intro args S h; unfold s_red at h ⊢; (split at h <;> first | exact False.elim h | skip)
  dsimp only at h ⊢
  rename_i p q
  obtain ⟨h0, hp, hq⟩ := h
  have hg := redG_pos (p := p) h0
  have hgl := redG_le (p := p) h0 hq
  have hb := red_bound h0 hp hq
  have hs := red_sign (p := p) h0
  have e : (Int.gcd (p.natAbs : Int) (q.natAbs : Int) : Int) = redG p q := by simp [Int.gcd, redG]
  refine funW tabOk (E := [(146, s_fOk), (152, s_gcdN), (153, s_abs)]) ⟨ok_l01Ok, ok_l01Gcd, ok_l01Abs, trivial⟩ [] (k := 0) (fn := Tryz.f113) rfl rfl rfl rfl rfl rfl ?_
  (repeat' ((try (conv => whnf)); first | (with_reducible first | refine And.intro ?_ ?_ | refine WX.of ?_) | exact zc | ((with_reducible refine VC.mk ?_); exact zw) | (with_reducible first | refine splitT ?_ | refine splitF ?_) | ((with_reducible refine splitM.mk (fun hsm => ?_) (fun hsm => ?_)) <;> (try exact zx)) | ((with_reducible refine splitB.mk (fun h => ?_) (fun h => ?_)) <;> (try simp only [zs, ne_eq] at h) <;> (try simp (disch := omega) only [w64] at h) <;> (try exact zx)) | (with_reducible intro hz; (try exact absurd hz (Nat.succ_ne_zero _)))))
  all_goals
    rename_i hq'
    simp (disch := omega) only [e, red_p, red_q, w64, Int.zero_sub] at h hq' ⊢
    first | rw [hs] at hq' | (rw [← Int.not_lt, hs] at hq')
    refine ⟨?_⟩
    simp [redOk, redP, redQ, h, hq']
/-- What fracOf answers. -/
def s_fracOf : Spec := fun args S => match args, S with
  | [.int .i64 p, .int .i64 q], [] => ⟨q ≠ 0 ∧ (-9223372036854775807 ≤ p ∧ p ≤ 9223372036854775807) ∧ (-9223372036854775807 ≤ q ∧ q ≤ 9223372036854775807), .tup [.agg [.int .i64 (if redOk p q = true then redP p q else 0), .int .i64 (if redOk p q = true then redQ p q else 0)], .bool (redOk p q)], []⟩
  | _, _ => noSpec
theorem redG_neg (p q : Int) : (Int.gcd (-p) (-q) : Int) = redG p q := by simp [redG]
theorem ok_fracOf : SpecOk Tryz.prog 151 s_fracOf := by
  intro args S h; unfold s_fracOf at h ⊢; (split at h <;> first | exact False.elim h | skip)
  dsimp only at h ⊢
  rename_i p q
  obtain ⟨h0, hp, hq⟩ := h
  have hg := redG_pos (p := p) h0
  have hgl := redG_le (p := p) h0 hq
  have hb := red_bound h0 hp hq
  have hs := red_sign (p := p) h0
  have e : (Int.gcd p q : Int) = redG p q := rfl
  have e2 := redG_neg p q
  refine funW tabOk (E := [(102, s_fOk), (144, s_gcd)]) ⟨ok_ValidFrac, ok_gcd, trivial⟩ [] (k := 0) (fn := Tryz.f151) rfl rfl rfl rfl rfl rfl ?_
  (repeat' ((try (conv => whnf)); first | (with_reducible first | refine And.intro ?_ ?_ | refine WX.of ?_) | exact zc | ((with_reducible refine VC.mk ?_); exact zw) | ((with_reducible refine VC.mk ?_); simp (disch := omega) only [w64, Int.zero_sub, e, e2]; omega) | (with_reducible first | refine splitT ?_ | refine splitF ?_) | ((with_reducible refine splitM.mk (fun hsm => ?_) (fun hsm => ?_)) <;> (try exact zx)) | ((with_reducible refine splitB.mk (fun h => ?_) (fun h => ?_)) <;> (try simp only [zs, ne_eq] at h) <;> (try simp (disch := omega) only [w64] at h) <;> (try exact zx)) | (with_reducible intro hz; (try exact absurd hz (Nat.succ_ne_zero _)))))
  all_goals
    rename_i hq'
    simp (disch := omega) only [e, e2, red_p, red_q, red_np, red_nq, w64, Int.zero_sub] at h ⊢
    refine ⟨?_⟩
    first | (simp [redOk, redP, redQ, h, hq']; done) | simp [redOk, redP, redQ, h, show ¬ q < 0 by omega]
/-- What told answers: 0 where it is no valid fraction. -/
def tolP (p q : Int) : Int := if redOk p q = true then redP p q else 0
def tolQ (p q : Int) : Int := if redOk p q = true then redQ p q else 1
def s_told : Spec := fun args S => match args, S with
  | [.ptr b 0 0, .int .i64 p, .int .i64 q], [.arr .bool [bad] 0 true] => ⟨b = 0 ∧ q ≠ 0 ∧ (-9223372036854775807 ≤ p ∧ p ≤ 9223372036854775807) ∧ (-9223372036854775807 ≤ q ∧ q ≤ 9223372036854775807), .agg [.int .i64 (tolP p q), .int .i64 (tolQ p q)], [.arr .bool [bad || !redOk p q] 0 true]⟩
  | _, _ => noSpec
def s_zero : Spec := fun args S => match args, S with
  | [], [] => ⟨True, .agg [.int .i64 0, .int .i64 1], []⟩
  | _, _ => noSpec
theorem ok_zero : SpecOk Tryz.prog 46 s_zero := by
  intro args S h; unfold s_zero at h ⊢; (split at h <;> first | exact False.elim h | skip)
  dsimp only at h ⊢
  refine funW tabOk (E := []) trivial [] (k := 0) (fn := Tryz.f46) rfl rfl rfl rfl rfl rfl ?_
  (repeat' ((try (conv => whnf)); first | (with_reducible first | refine And.intro ?_ ?_ | refine WX.of ?_) | exact zc | ((with_reducible refine VC.mk ?_); exact zw) | (with_reducible first | refine splitT ?_ | refine splitF ?_) | ((with_reducible refine splitM.mk (fun hsm => ?_) (fun hsm => ?_)) <;> (try exact zx)) | ((with_reducible refine splitB.mk (fun h => ?_) (fun h => ?_)) <;> (try simp only [zs, ne_eq] at h) <;> (try simp (disch := omega) only [w64] at h) <;> (try exact zx)) | (with_reducible intro hz; (try exact absurd hz (Nat.succ_ne_zero _)))))
theorem ok_told : SpecOk Tryz.prog 111 s_told := by
  intro args S h; unfold s_told at h ⊢; (split at h <;> first | exact False.elim h | skip)
  dsimp only at h ⊢
  rename_i b p q bad
  obtain ⟨rfl, h0, hp, hq⟩ := h
  refine funW tabOk (E := [(151, s_fracOf), (46, s_zero)]) ⟨ok_fracOf, ok_zero, trivial⟩ [] (k := 1) (fn := Tryz.f111) rfl rfl rfl rfl rfl rfl ?_
  (repeat' ((try (conv => whnf)); first | (with_reducible first | refine And.intro ?_ ?_ | refine WX.of ?_) | exact zc | ((with_reducible refine VC.mk ?_); exact zw) | (with_reducible first | refine splitT ?_ | refine splitF ?_) | ((with_reducible refine splitM.mk (fun hsm => ?_) (fun hsm => ?_)) <;> (try exact zx)) | ((with_reducible refine splitB.mk (fun h => ?_) (fun h => ?_)) <;> (try simp only [zs, ne_eq] at h) <;> (try simp (disch := omega) only [w64] at h) <;> (try exact zx)) | (with_reducible intro hz; (try exact absurd hz (Nat.succ_ne_zero _)))))
  all_goals (refine ⟨?_⟩; simp [tolP, tolQ, h])
def s_one : Spec := fun args S => match args, S with
  | [.ptr b 0 0, .agg [.int .i64 p, .int .i64 q]], [.arr .bool [bad] 0 true] => ⟨b = 0, .tup [.agg [.int .i64 (if bad = true then 0 else p), .int .i64 (if bad = true then 0 else q)], .int .i64 (if bad = true then 3 else 0)], [.arr .bool [bad] 0 true]⟩
  | _, _ => noSpec
theorem ok_one : SpecOk Tryz.prog 60 s_one := by
  intro args S h; unfold s_one at h ⊢; (split at h <;> first | exact False.elim h | skip)
  dsimp only at h ⊢
  rename_i b p q bad
  subst h
  refine funW tabOk (E := []) trivial [] (k := 1) (fn := Tryz.f60) rfl rfl rfl rfl rfl rfl ?_
  (repeat' ((try (conv => whnf)); first | (with_reducible first | refine And.intro ?_ ?_ | refine WX.of ?_) | exact zc | ((with_reducible refine VC.mk ?_); exact zw) | (with_reducible first | refine splitT ?_ | refine splitF ?_) | ((with_reducible refine splitM.mk (fun hsm => ?_) (fun hsm => ?_)) <;> (try exact zx)) | ((with_reducible refine splitB.mk (fun h => ?_) (fun h => ?_)) <;> (try simp only [zs, ne_eq] at h) <;> (try simp (disch := omega) only [w64] at h) <;> (try exact zx)) | (with_reducible intro hz; (try exact absurd hz (Nat.succ_ne_zero _)))))
  all_goals (refine ⟨?_⟩; simp [h])
theorem mulB {a b : Int} (ha : -1000000000 ≤ a ∧ a ≤ 1000000000) (hb : -1000000000 ≤ b ∧ b ≤ 1000000000) : -1000000000000000000 ≤ a * b ∧ a * b ≤ 1000000000000000000 := by
  have h1 : a.natAbs ≤ 1000000000 := by omega
  have h2 : b.natAbs ≤ 1000000000 := by omega
  have h3 := Nat.mul_le_mul h1 h2
  rw [← Int.natAbs_mul] at h3
  omega
theorem mulPos {a b : Int} (ha : 1 ≤ a) (hb : 1 ≤ b) : 1 ≤ a * b := by
  have := Int.mul_le_mul ha hb (by omega) (by omega)
  omega
/-- The parts of a fraction within bounds. -/
def smF (p q : Int) : Prop := (-1000000000 ≤ p ∧ p ≤ 1000000000) ∧ 1 ≤ q ∧ q ≤ 1000000000
theorem smF_ok {p q : Int} (h : fOk p q = true) : smF p q := by
  rw [fOk_iff] at h; unfold smF; omega
theorem smF_tol (p q : Int) : smF (tolP p q) (tolQ p q) := by
  unfold tolP tolQ
  split
  · rename_i h; exact smF_ok h
  · unfold smF; omega
theorem smF_1 {n : Int} (h : -1000000000 ≤ n ∧ n ≤ 1000000000) : smF n 1 := by unfold smF; omega
def s_add : Spec := fun args S => match args, S with
  | [.ptr b 0 0, .agg [.int .i64 p, .int .i64 q], .agg [.int .i64 p', .int .i64 q']], [.arr .bool [bad] 0 true] => ⟨b = 0 ∧ smF p q ∧ smF p' q', .agg [.int .i64 (tolP (p * q' + p' * q) (q * q')), .int .i64 (tolQ (p * q' + p' * q) (q * q'))], [.arr .bool [bad || !redOk (p * q' + p' * q) (q * q')] 0 true]⟩
  | _, _ => noSpec
def s_sub : Spec := fun args S => match args, S with
  | [.ptr b 0 0, .agg [.int .i64 p, .int .i64 q], .agg [.int .i64 p', .int .i64 q']], [.arr .bool [bad] 0 true] => ⟨b = 0 ∧ smF p q ∧ smF p' q', .agg [.int .i64 (tolP (p * q' - p' * q) (q * q')), .int .i64 (tolQ (p * q' - p' * q) (q * q'))], [.arr .bool [bad || !redOk (p * q' - p' * q) (q * q')] 0 true]⟩
  | _, _ => noSpec
def s_mul : Spec := fun args S => match args, S with
  | [.ptr b 0 0, .agg [.int .i64 p, .int .i64 q], .agg [.int .i64 p', .int .i64 q']], [.arr .bool [bad] 0 true] => ⟨b = 0 ∧ smF p q ∧ smF p' q', .agg [.int .i64 (tolP (p * p') (q * q')), .int .i64 (tolQ (p * p') (q * q'))], [.arr .bool [bad || !redOk (p * p') (q * q')] 0 true]⟩
  | _, _ => noSpec
/-- A quotient; by 0 nothing valid. -/
def divOk (p q p' q' : Int) : Bool := !decide (p' = 0) && redOk (p * q') (q * p')
def divP (p q p' q' : Int) : Int := if p' = 0 then 0 else tolP (p * q') (q * p')
def divQ (p q p' q' : Int) : Int := if p' = 0 then 1 else tolQ (p * q') (q * p')
def s_div : Spec := fun args S => match args, S with
  | [.ptr b 0 0, .agg [.int .i64 p, .int .i64 q], .agg [.int .i64 p', .int .i64 q']], [.arr .bool [bad] 0 true] => ⟨b = 0 ∧ smF p q ∧ smF p' q', .agg [.int .i64 (divP p q p' q'), .int .i64 (divQ p q p' q')], [.arr .bool [bad || !divOk p q p' q'] 0 true]⟩
  | _, _ => noSpec
theorem smF_mul {p q p' q' : Int} (h : smF p q) (h' : smF p' q') :
    (-1000000000000000000 ≤ p * q' ∧ p * q' ≤ 1000000000000000000) ∧ (-1000000000000000000 ≤ p' * q ∧ p' * q ≤ 1000000000000000000) ∧ (-1000000000000000000 ≤ q * p' ∧ q * p' ≤ 1000000000000000000) ∧ (-1000000000000000000 ≤ p * p' ∧ p * p' ≤ 1000000000000000000) ∧ (1 ≤ q * q' ∧ q * q' ≤ 1000000000000000000) := by
  unfold smF at h h'
  exact ⟨mulB h.1 ⟨by omega, by omega⟩, mulB h'.1 ⟨by omega, by omega⟩, mulB ⟨by omega, by omega⟩ h'.1, mulB h.1 h'.1, mulPos h.2.1 h'.2.1, (mulB ⟨by omega, by omega⟩ ⟨by omega, by omega⟩).2⟩
theorem ok_add : SpecOk Tryz.prog 44 s_add := by
  intro args S h; unfold s_add at h ⊢; (split at h <;> first | exact False.elim h | skip)
  dsimp only at h ⊢
  rename_i b p q p' q' bad
  obtain ⟨rfl, h1, h2⟩ := h
  have hm := smF_mul h1 h2
  refine funW tabOk (E := [(111, s_told)]) ⟨ok_told, trivial⟩ [] (k := 1) (fn := Tryz.f44) rfl rfl rfl rfl rfl rfl ?_
  (repeat' ((try (conv => whnf)); first | (with_reducible first | refine And.intro ?_ ?_ | refine WX.of ?_) | exact zc | ((with_reducible refine VC.mk ?_); exact zw) | ((with_reducible refine VC.mk ?_); simp (disch := omega) only [w64]; first  |  done  |  omega  |  (refine ⟨?_, ?_, ?_⟩ <;> first  |  trivial  |  omega)) | (with_reducible first | refine splitT ?_ | refine splitF ?_) | ((with_reducible refine splitM.mk (fun hsm => ?_) (fun hsm => ?_)) <;> (try exact zx)) | ((with_reducible refine splitB.mk (fun h => ?_) (fun h => ?_)) <;> (try simp only [zs, ne_eq] at h) <;> (try simp (disch := omega) only [w64] at h) <;> (try exact zx)) | (with_reducible intro hz; (try exact absurd hz (Nat.succ_ne_zero _)))))
theorem ok_sub : SpecOk Tryz.prog 47 s_sub := by
  intro args S h; unfold s_sub at h ⊢; (split at h <;> first | exact False.elim h | skip)
  dsimp only at h ⊢
  rename_i b p q p' q' bad
  obtain ⟨rfl, h1, h2⟩ := h
  have hm := smF_mul h1 h2
  refine funW tabOk (E := [(111, s_told)]) ⟨ok_told, trivial⟩ [] (k := 1) (fn := Tryz.f47) rfl rfl rfl rfl rfl rfl ?_
  (repeat' ((try (conv => whnf)); first | (with_reducible first | refine And.intro ?_ ?_ | refine WX.of ?_) | exact zc | ((with_reducible refine VC.mk ?_); exact zw) | ((with_reducible refine VC.mk ?_); simp (disch := omega) only [w64]; first  |  done  |  omega  |  (refine ⟨?_, ?_, ?_⟩ <;> first  |  trivial  |  omega)) | (with_reducible first | refine splitT ?_ | refine splitF ?_) | ((with_reducible refine splitM.mk (fun hsm => ?_) (fun hsm => ?_)) <;> (try exact zx)) | ((with_reducible refine splitB.mk (fun h => ?_) (fun h => ?_)) <;> (try simp only [zs, ne_eq] at h) <;> (try simp (disch := omega) only [w64] at h) <;> (try exact zx)) | (with_reducible intro hz; (try exact absurd hz (Nat.succ_ne_zero _)))))
theorem ok_mul : SpecOk Tryz.prog 48 s_mul := by
  intro args S h; unfold s_mul at h ⊢; (split at h <;> first | exact False.elim h | skip)
  dsimp only at h ⊢
  rename_i b p q p' q' bad
  obtain ⟨rfl, h1, h2⟩ := h
  have hm := smF_mul h1 h2
  refine funW tabOk (E := [(111, s_told)]) ⟨ok_told, trivial⟩ [] (k := 1) (fn := Tryz.f48) rfl rfl rfl rfl rfl rfl ?_
  (repeat' ((try (conv => whnf)); first | (with_reducible first | refine And.intro ?_ ?_ | refine WX.of ?_) | exact zc | ((with_reducible refine VC.mk ?_); exact zw) | ((with_reducible refine VC.mk ?_); simp (disch := omega) only [w64]; first  |  done  |  omega  |  (refine ⟨?_, ?_, ?_⟩ <;> first  |  trivial  |  omega)) | (with_reducible first | refine splitT ?_ | refine splitF ?_) | ((with_reducible refine splitM.mk (fun hsm => ?_) (fun hsm => ?_)) <;> (try exact zx)) | ((with_reducible refine splitB.mk (fun h => ?_) (fun h => ?_)) <;> (try simp only [zs, ne_eq] at h) <;> (try simp (disch := omega) only [w64] at h) <;> (try exact zx)) | (with_reducible intro hz; (try exact absurd hz (Nat.succ_ne_zero _)))))
theorem ok_div : SpecOk Tryz.prog 179 s_div := by
  intro args S h; unfold s_div at h ⊢; (split at h <;> first | exact False.elim h | skip)
  dsimp only at h ⊢
  rename_i b p q p' q' bad
  obtain ⟨rfl, h1, h2⟩ := h
  have hm := smF_mul h1 h2
  refine funW tabOk (E := [(111, s_told), (46, s_zero)]) ⟨ok_told, ok_zero, trivial⟩ [] (k := 1) (fn := Tryz.f179) rfl rfl rfl rfl rfl rfl ?_
  (repeat' ((try (conv => whnf)); first | (with_reducible first | refine And.intro ?_ ?_ | refine WX.of ?_) | exact zc | ((with_reducible refine VC.mk ?_); exact zw) | ((with_reducible refine VC.mk ?_); simp (disch := omega) only [w64]; first  |  done  |  omega  |  (refine ⟨?_, ?_, ?_⟩ <;> first  |  trivial  |  omega)) | (with_reducible first | refine splitT ?_ | refine splitF ?_) | ((with_reducible refine splitM.mk (fun hsm => ?_) (fun hsm => ?_)) <;> (try exact zx)) | ((with_reducible refine splitB.mk (fun h => ?_) (fun h => ?_)) <;> (try simp only [zs, ne_eq] at h) <;> (try simp (disch := omega) only [w64] at h) <;> (try exact zx)) | (with_reducible intro hz; (try exact absurd hz (Nat.succ_ne_zero _)))))
  · refine ⟨?_⟩; simp [divP, divQ, h]
  · refine ⟨?_⟩; simp [divOk, h]
  · have h3 : q * p' ≠ 0 := Int.mul_ne_zero (by unfold smF at h1; omega) h
    refine ⟨?_⟩
    simp (disch := omega) only [w64]
    refine ⟨?_, h3, ?_, ?_⟩ <;> first | trivial | omega
  · refine ⟨?_⟩
    simp (disch := omega) only [w64]
    simp [divP, divQ, h]
  · refine ⟨?_⟩
    simp (disch := omega) only [w64]
    simp [divOk, h]
def s_num : Spec := fun args S => match args, S with
  | [.int .i64 n], [] => ⟨True, .agg [.int .i64 n, .int .i64 1], []⟩
  | _, _ => noSpec
theorem ok_num : SpecOk Tryz.prog 49 s_num := by
  intro args S h; unfold s_num at h ⊢; (split at h <;> first | exact False.elim h | skip)
  dsimp only at h ⊢
  refine funW tabOk (E := []) trivial [] (k := 0) (fn := Tryz.f49) rfl rfl rfl rfl rfl rfl ?_
  (repeat' ((try (conv => whnf)); first | (with_reducible first | refine And.intro ?_ ?_ | refine WX.of ?_) | exact zc | ((with_reducible refine VC.mk ?_); exact zw) | (with_reducible first | refine splitT ?_ | refine splitF ?_) | ((with_reducible refine splitM.mk (fun hsm => ?_) (fun hsm => ?_)) <;> (try exact zx)) | ((with_reducible refine splitB.mk (fun h => ?_) (fun h => ?_)) <;> (try simp only [zs, ne_eq] at h) <;> (try simp (disch := omega) only [w64] at h) <;> (try exact zx)) | (with_reducible intro hz; (try exact absurd hz (Nat.succ_ne_zero _)))))
theorem ok_l01Whole : SpecOk Tryz.prog 56 s_num := by
  intro args S h; unfold s_num at h ⊢; (split at h <;> first | exact False.elim h | skip)
  dsimp only at h ⊢
  refine funW tabOk (E := []) trivial [] (k := 0) (fn := Tryz.f56) rfl rfl rfl rfl rfl rfl ?_
  (repeat' ((try (conv => whnf)); first | (with_reducible first | refine And.intro ?_ ?_ | refine WX.of ?_) | exact zc | ((with_reducible refine VC.mk ?_); exact zw) | (with_reducible first | refine splitT ?_ | refine splitF ?_) | ((with_reducible refine splitM.mk (fun hsm => ?_) (fun hsm => ?_)) <;> (try exact zx)) | ((with_reducible refine splitB.mk (fun h => ?_) (fun h => ?_)) <;> (try simp only [zs, ne_eq] at h) <;> (try simp (disch := omega) only [w64] at h) <;> (try exact zx)) | (with_reducible intro hz; (try exact absurd hz (Nat.succ_ne_zero _)))))
/-- What l01Reduced answers. -/
def rdP (p q : Int) : Int := if redOk p q = true then redP p q else 0
def rdQ (p q : Int) : Int := if redOk p q = true then redQ p q else 0
def rdC (p q : Int) : Int := if redOk p q = true then 0 else 3
def s_addS : Spec := fun args S => match args, S with
  | [.agg [.int .i64 p, .int .i64 q], .agg [.int .i64 p', .int .i64 q']], [] => ⟨smF p q ∧ smF p' q', .tup [.agg [.int .i64 (rdP (p * q' + p' * q) (q * q')), .int .i64 (rdQ (p * q' + p' * q) (q * q'))], .int .i64 (rdC (p * q' + p' * q) (q * q'))], []⟩
  | _, _ => noSpec
def s_mulS : Spec := fun args S => match args, S with
  | [.agg [.int .i64 p, .int .i64 q], .agg [.int .i64 p', .int .i64 q']], [] => ⟨smF p q ∧ smF p' q', .tup [.agg [.int .i64 (rdP (p * p') (q * q')), .int .i64 (rdQ (p * p') (q * q'))], .int .i64 (rdC (p * p') (q * q'))], []⟩
  | _, _ => noSpec
theorem ok_l01Add : SpecOk Tryz.prog 57 s_addS := by
  intro args S h; unfold s_addS at h ⊢; (split at h <;> first | exact False.elim h | skip)
  dsimp only at h ⊢
  rename_i p q p' q'
  have hm := smF_mul h.1 h.2
  refine funW tabOk (E := [(113, s_red)]) ⟨ok_l01Reduced, trivial⟩ [] (k := 0) (fn := Tryz.f57) rfl rfl rfl rfl rfl rfl ?_
  (repeat' ((try (conv => whnf)); first | (with_reducible first | refine And.intro ?_ ?_ | refine WX.of ?_) | exact zc | ((with_reducible refine VC.mk ?_); exact zw) | ((with_reducible refine VC.mk ?_); simp (disch := omega) only [w64]; first  |  done  |  omega  |  (refine ⟨?_, ?_, ?_⟩ <;> first  |  trivial  |  omega)) | (with_reducible first | refine splitT ?_ | refine splitF ?_) | ((with_reducible refine splitM.mk (fun hsm => ?_) (fun hsm => ?_)) <;> (try exact zx)) | ((with_reducible refine splitB.mk (fun h => ?_) (fun h => ?_)) <;> (try simp only [zs, ne_eq] at h) <;> (try simp (disch := omega) only [w64] at h) <;> (try exact zx)) | (with_reducible intro hz; (try exact absurd hz (Nat.succ_ne_zero _)))))
  all_goals (refine ⟨?_⟩; simp (disch := omega) only [w64]; rfl)
theorem ok_l01Mul : SpecOk Tryz.prog 55 s_mulS := by
  intro args S h; unfold s_mulS at h ⊢; (split at h <;> first | exact False.elim h | skip)
  dsimp only at h ⊢
  rename_i p q p' q'
  have hm := smF_mul h.1 h.2
  refine funW tabOk (E := [(113, s_red)]) ⟨ok_l01Reduced, trivial⟩ [] (k := 0) (fn := Tryz.f55) rfl rfl rfl rfl rfl rfl ?_
  (repeat' ((try (conv => whnf)); first | (with_reducible first | refine And.intro ?_ ?_ | refine WX.of ?_) | exact zc | ((with_reducible refine VC.mk ?_); exact zw) | ((with_reducible refine VC.mk ?_); simp (disch := omega) only [w64]; first  |  done  |  omega  |  (refine ⟨?_, ?_, ?_⟩ <;> first  |  trivial  |  omega)) | (with_reducible first | refine splitT ?_ | refine splitF ?_) | ((with_reducible refine splitM.mk (fun hsm => ?_) (fun hsm => ?_)) <;> (try exact zx)) | ((with_reducible refine splitB.mk (fun h => ?_) (fun h => ?_)) <;> (try simp only [zs, ne_eq] at h) <;> (try simp (disch := omega) only [w64] at h) <;> (try exact zx)) | (with_reducible intro hz; (try exact absurd hz (Nat.succ_ne_zero _)))))
  all_goals (refine ⟨?_⟩; simp (disch := omega) only [w64]; rfl)
end Go.Proofs.YtonnkpclllmkoaaGreat.Eng
set_option linter.unusedVariables false
set_option linter.unusedSimpArgs false
namespace Go.Proofs.YtonnkpclllmkoaaGreat.Eng
open Go Go.RowKit
set_option maxRecDepth 100000
def s_toFrac : Spec := fun args S => match args, S with
  | [.agg [.int .i64 p, .int .i64 q]], [] => ⟨True, .agg [.int .i64 p, .int .i64 q], []⟩
  | _, _ => noSpec
theorem ok_toFrac : SpecOk Tryz.prog 77 s_toFrac := by
  intro args S h; unfold s_toFrac at h ⊢; (split at h <;> first | exact False.elim h | skip)
  dsimp only at h ⊢
  refine funW tabOk (E := []) trivial [] (k := 0) (fn := Tryz.f77) rfl rfl rfl rfl rfl rfl ?_
  (repeat' ((try (conv => whnf)); first | (with_reducible first | refine And.intro ?_ ?_ | refine WX.of ?_) | exact zc | ((with_reducible refine VC.mk ?_); exact zw) | (with_reducible first | refine splitT ?_ | refine splitF ?_) | ((with_reducible refine splitM.mk (fun hsm => ?_) (fun hsm => ?_)) <;> (try exact zx)) | ((with_reducible refine splitB.mk (fun h => ?_) (fun h => ?_)) <;> (try simp only [zs, ne_eq] at h) <;> (try simp (disch := omega) only [w64] at h) <;> (try exact zx)) | (with_reducible intro hz; (try exact absurd hz (Nat.succ_ne_zero _)))))
def s_eqFrac : Spec := fun args S => match args, S with
  | [.agg [.int .i64 p, .int .i64 q], .agg [.int .i64 p', .int .i64 q']], [] => ⟨True, .bool (decide (p = p' ∧ q = q')), []⟩
  | _, _ => noSpec
theorem ok_eqFrac : SpecOk Tryz.prog 85 s_eqFrac := by
  intro args S h; unfold s_eqFrac at h ⊢; (split at h <;> first | exact False.elim h | skip)
  dsimp only at h ⊢
  refine funW tabOk (E := []) trivial [] (k := 0) (fn := Tryz.f85) rfl rfl rfl rfl rfl rfl ?_
  (repeat' ((try (conv => whnf)); first | (with_reducible first | refine And.intro ?_ ?_ | refine WX.of ?_) | exact zc | ((with_reducible refine VC.mk ?_); exact zw) | (with_reducible first | refine splitT ?_ | refine splitF ?_) | ((with_reducible refine splitM.mk (fun hsm => ?_) (fun hsm => ?_)) <;> (try exact zx)) | ((with_reducible refine splitB.mk (fun h => ?_) (fun h => ?_)) <;> (try simp only [zs, ne_eq] at h) <;> (try simp (disch := omega) only [w64] at h) <;> (try exact zx)) | (with_reducible intro hz; (try exact absurd hz (Nat.succ_ne_zero _)))))
  all_goals (refine ⟨congrArg SV.bool ?_⟩; (try dsimp only); (try simp (disch := omega) only [w64]); rw [Bool.eq_iff_iff]; try (simp []); try omega)
def s_toFracS : Spec := fun args S => match args, S with
  | [.opt c 0 n 0], [.arrO (.prod (.int .i64) (.int .i64)) l 2] => ⟨n ≤ l.length ∧ (c = true → l = []) ∧ n ≤ 1048576, .sl 1 0 n 0, [.arrO (.prod (.int .i64) (.int .i64)) l 2, .arr (.prod (.int .i64) (.int .i64)) (seg l 0 n) 2 true]⟩
  | [.sl 0 s n x], [.arr (.prod (.int .i64) (.int .i64)) l 2 wr] => ⟨s + n ≤ l.length ∧ n ≤ 1048576, .sl 1 0 n 0, [.arr (.prod (.int .i64) (.int .i64)) l 2 wr, .arr (.prod (.int .i64) (.int .i64)) (seg l s n) 2 true]⟩
  | _, _ => noSpec
theorem toFracS_sl {s n x : Nat} {l : List (ET.T (.prod (.int .i64) (.int .i64)))} {wr : Bool} (h : s + n ≤ l.length ∧ n ≤ 1048576) : RunsS Tryz.prog 132 [.sl 0 s n x] [.arr (.prod (.int .i64) (.int .i64)) l 2 wr] (.sl 1 0 n 0) [.arr (.prod (.int .i64) (.int .i64)) l 2 wr, .arr (.prod (.int .i64) (.int .i64)) (seg l s n) 2 true] := by
  have hL := seg_len h.1
  refine funW tabOk (E := [(77, s_toFrac)]) ⟨ok_toFrac, trivial⟩ [] (k := 1) (fn := Tryz.f132) rfl rfl rfl rfl rfl rfl ?_
  (repeat' ((try (conv => whnf)); first | (with_reducible first | refine And.intro ?_ ?_ | refine WX.of ?_) | exact zc | ((with_reducible refine VC.mk ?_); exact zw) | ((with_reducible refine VC.mk ?_); (refine ⟨?_, rfl, ?_, ?_⟩); (omega); (refine Int.le_trans (Int.mul_le_mul_of_nonneg_right (b := 100000) ?_ ?_) ?_; (decide); (omega); (omega)); (omega)) | (with_reducible first | refine splitT ?_ | refine splitF ?_) | ((with_reducible refine splitM.mk (fun hsm => ?_) (fun hsm => ?_)) <;> (try exact zx)) | ((with_reducible refine splitB.mk (fun h => ?_) (fun h => ?_)) <;> (try simp only [zs, ne_eq] at h) <;> (try simp (disch := omega) only [w64] at h) <;> (try exact zx)) | (with_reducible intro hz; (try exact absurd hz (Nat.succ_ne_zero _)))))
  refine loopW tabOk (E := [(77, s_toFrac)]) ⟨ok_toFrac, trivial⟩ [] (σ := Nat) (fun i => [(0, .sl 0 s n x), (3, .sl 1 0 n 0), (4, .int .i64 i)]) (fun i => [.arr (.prod (.int .i64) (.int .i64)) l 2 wr, .arr (.prod (.int .i64) (.int .i64)) ((seg l s n).take i ++ List.replicate (n - i) (((0, 0) : Int × Int) : ET.T (.prod (.int .i64) (.int .i64)))) 2 true]) (fun i => n - i) (fun i => i ≤ n) 0 (Nat.zero_le _) ?_ ?_
  · (repeat' ((try (conv => whnf)); first | (with_reducible first | refine And.intro ?_ ?_ | refine WX.of ?_) | exact zc | ((with_reducible refine VC.mk ?_); exact zw) | (with_reducible first | refine splitT ?_ | refine splitF ?_) | ((with_reducible refine splitM.mk (fun hsm => ?_) (fun hsm => ?_)) <;> (try exact zx)) | ((with_reducible refine splitB.mk (fun h => ?_) (fun h => ?_)) <;> (try simp only [zs, ne_eq] at h) <;> (try simp (disch := omega) only [w64] at h) <;> (try exact zx)) | (with_reducible intro hz; (try exact absurd hz (Nat.succ_ne_zero _)))))
    all_goals exact ⟨by simp⟩
  · intro i hi
    by_cases hlt : i < n
    · obtain ⟨⟨p, q⟩, ha⟩ := get_some (l := seg l s n) (i := i) (by omega)
      (repeat' ((try (conv => whnf)); first | (with_reducible first | refine And.intro ?_ ?_ | refine WX.of ?_) | exact zc | ((with_reducible refine VC.mk ?_); exact zw) | refine atL_i ha ?_ | refine atL_0 (fill_at hL hlt) ?_ | (with_reducible first | refine splitT ?_ | refine splitF ?_) | ((with_reducible refine splitM.mk (fun hsm => ?_) (fun hsm => ?_)) <;> (try exact zx)) | ((with_reducible refine splitB.mk (fun h => ?_) (fun h => ?_)) <;> (try simp only [zs, ne_eq] at h) <;> (try simp (disch := omega) only [w64] at h) <;> (try exact zx)) | (with_reducible intro hz; (try exact absurd hz (Nat.succ_ne_zero _)))))
      refine ⟨i + 1, by omega, hlt, ?_⟩
      (repeat' ((try (conv => whnf)); first | (with_reducible first | refine And.intro ?_ ?_ | refine WX.of ?_) | exact zc | ((with_reducible refine VC.mk ?_); exact zw) | (with_reducible first | refine splitT ?_ | refine splitF ?_) | ((with_reducible refine splitM.mk (fun hsm => ?_) (fun hsm => ?_)) <;> (try exact zx)) | ((with_reducible refine splitB.mk (fun h => ?_) (fun h => ?_)) <;> (try simp only [zs, ne_eq] at h) <;> (try simp (disch := omega) only [w64] at h) <;> (try exact zx)) | (with_reducible intro hz; (try exact absurd hz (Nat.succ_ne_zero _)))))
      exact ⟨by simp [fill_step hL ha]⟩
    · (repeat' ((try (conv => whnf)); first | (with_reducible first | refine And.intro ?_ ?_ | refine WX.of ?_) | exact zc | ((with_reducible refine VC.mk ?_); exact zw) | (with_reducible first | refine splitT ?_ | refine splitF ?_) | ((with_reducible refine splitM.mk (fun hsm => ?_) (fun hsm => ?_)) <;> (try exact zx)) | ((with_reducible refine splitB.mk (fun h => ?_) (fun h => ?_)) <;> (try simp only [zs, ne_eq] at h) <;> (try simp (disch := omega) only [w64] at h) <;> (try exact zx)) | (with_reducible intro hz; (try exact absurd hz (Nat.succ_ne_zero _)))))
      obtain rfl : i = n := by omega
      exact ⟨by rw [fill_end hL]⟩
theorem toFracS_none {v : SV} (hv : v = .nils ∨ v = .sl 0 0 0 0) : RunsS Tryz.prog 132 [v] [.gone] (.sl 1 0 0 0) [.gone, .arr (.prod (.int .i64) (.int .i64)) [] 2 true] := by
  rcases hv with rfl | rfl
  all_goals
    refine funW tabOk (E := [(77, s_toFrac)]) ⟨ok_toFrac, trivial⟩ [] (k := 1) (fn := Tryz.f132) rfl rfl rfl rfl rfl rfl ?_
    (repeat' ((try (conv => whnf)); first | (with_reducible first | refine And.intro ?_ ?_ | refine WX.of ?_) | exact zc | ((with_reducible refine VC.mk ?_); exact zw) | (with_reducible first | refine splitT ?_ | refine splitF ?_) | ((with_reducible refine splitM.mk (fun hsm => ?_) (fun hsm => ?_)) <;> (try exact zx)) | ((with_reducible refine splitB.mk (fun h => ?_) (fun h => ?_)) <;> (try simp only [zs, ne_eq] at h) <;> (try simp (disch := omega) only [w64] at h) <;> (try exact zx)) | (with_reducible intro hz; (try exact absurd hz (Nat.succ_ne_zero _)))))
    refine loop1 tabOk (E := [(77, s_toFrac)]) ⟨ok_toFrac, trivial⟩ [] ?_
    (repeat' ((try (conv => whnf)); first | (with_reducible first | refine And.intro ?_ ?_ | refine WX.of ?_) | exact zc | ((with_reducible refine VC.mk ?_); exact zw) | (with_reducible first | refine splitT ?_ | refine splitF ?_) | ((with_reducible refine splitM.mk (fun hsm => ?_) (fun hsm => ?_)) <;> (try exact zx)) | ((with_reducible refine splitB.mk (fun h => ?_) (fun h => ?_)) <;> (try simp only [zs, ne_eq] at h) <;> (try simp (disch := omega) only [w64] at h) <;> (try exact zx)) | (with_reducible intro hz; (try exact absurd hz (Nat.succ_ne_zero _)))))
theorem ok_toFracS : SpecOk Tryz.prog 132 s_toFracS := by
  intro args S h; unfold s_toFracS at h ⊢; (split at h <;> first | exact False.elim h | skip)
  dsimp only at h ⊢
  · exact RunsS.opt (pre := []) (post := []) rfl rfl h.1 (fun hn _ hl => by subst hn; subst hl; exact toFracS_none (.inl rfl)) (fun hn _ hl => by subst hn; subst hl; exact toFracS_none (.inr rfl)) (toFracS_sl ⟨by simpa using h.1, h.2.2⟩) h.2.1
  · exact toFracS_sl h
def s_eqFracS : Spec := fun args S => match args, S with
  | [.sl 0 s n x, .sl 1 s' n' x'], [.arr (.prod (.int .i64) (.int .i64)) l 2 wr, .arr (.prod (.int .i64) (.int .i64)) l' 2 wr'] => ⟨s + n ≤ l.length ∧ s' + n' ≤ l'.length ∧ n ≤ 4611686018427387904, .bool (decide (seg l s n = seg l' s' n')), [.arr (.prod (.int .i64) (.int .i64)) l 2 wr, .arr (.prod (.int .i64) (.int .i64)) l' 2 wr']⟩
  | [.nils, .sl 0 s' n' x'], [.arr (.prod (.int .i64) (.int .i64)) l' 2 wr'] => ⟨s' + n' ≤ l'.length ∧ n' = 0, .bool true, [.arr (.prod (.int .i64) (.int .i64)) l' 2 wr']⟩
  | _, _ => noSpec
theorem eqFracS_nil {s x : Nat} {l : List (ET.T (.prod (.int .i64) (.int .i64)))} {wr : Bool} : RunsS Tryz.prog 140 [.nils, .sl 0 s 0 x] [.arr (.prod (.int .i64) (.int .i64)) l 2 wr] (.bool true) [.arr (.prod (.int .i64) (.int .i64)) l 2 wr] := by
  refine funW tabOk (E := [(85, s_eqFrac)]) ⟨ok_eqFrac, trivial⟩ [] (k := 1) (fn := Tryz.f140) rfl rfl rfl rfl rfl rfl ?_
  (repeat' ((try (conv => whnf)); first | (with_reducible first | refine And.intro ?_ ?_ | refine WX.of ?_) | exact zc | ((with_reducible refine VC.mk ?_); exact zw) | (with_reducible first | refine splitT ?_ | refine splitF ?_) | ((with_reducible refine splitM.mk (fun hsm => ?_) (fun hsm => ?_)) <;> (try exact zx)) | ((with_reducible refine splitB.mk (fun h => ?_) (fun h => ?_)) <;> (try simp only [zs, ne_eq] at h) <;> (try simp (disch := omega) only [w64] at h) <;> (try exact zx)) | (with_reducible intro hz; (try exact absurd hz (Nat.succ_ne_zero _)))))
  refine loop1 tabOk (E := [(85, s_eqFrac)]) ⟨ok_eqFrac, trivial⟩ [] ?_
  (repeat' ((try (conv => whnf)); first | (with_reducible first | refine And.intro ?_ ?_ | refine WX.of ?_) | exact zc | ((with_reducible refine VC.mk ?_); exact zw) | (with_reducible first | refine splitT ?_ | refine splitF ?_) | ((with_reducible refine splitM.mk (fun hsm => ?_) (fun hsm => ?_)) <;> (try exact zx)) | ((with_reducible refine splitB.mk (fun h => ?_) (fun h => ?_)) <;> (try simp only [zs, ne_eq] at h) <;> (try simp (disch := omega) only [w64] at h) <;> (try exact zx)) | (with_reducible intro hz; (try exact absurd hz (Nat.succ_ne_zero _)))))
theorem ok_eqFracS : SpecOk Tryz.prog 140 s_eqFracS := by
  intro args S h; unfold s_eqFracS at h ⊢; (split at h <;> first | exact False.elim h | skip)
  dsimp only at h ⊢
  rotate_left 1
  · obtain ⟨h1, rfl⟩ := h
    exact eqFracS_nil
  rename_i s n x s' n' x' l wr l' wr'
  have hL := seg_len h.1
  have hM := seg_len h.2.1
  refine funW tabOk (E := [(85, s_eqFrac)]) ⟨ok_eqFrac, trivial⟩ [] (k := 2) (fn := Tryz.f140) rfl rfl rfl rfl rfl rfl ?_
  (repeat' ((try (conv => whnf)); first | (with_reducible first | refine And.intro ?_ ?_ | refine WX.of ?_) | exact zc | ((with_reducible refine VC.mk ?_); exact zw) | (with_reducible first | refine splitT ?_ | refine splitF ?_) | ((with_reducible refine splitM.mk (fun hsm => ?_) (fun hsm => ?_)) <;> (try exact zx)) | ((with_reducible refine splitB.mk (fun h => ?_) (fun h => ?_)) <;> (try simp only [zs, ne_eq] at h) <;> (try simp (disch := omega) only [w64] at h) <;> (try exact zx)) | (with_reducible intro hz; (try exact absurd hz (Nat.succ_ne_zero _)))))
  · refine ⟨?_⟩
    rw [decide_eq_false]; intro e
    rw [e] at hL; omega
  · obtain rfl : n = n' := by omega
    refine loopW tabOk (E := [(85, s_eqFrac)]) ⟨ok_eqFrac, trivial⟩ [] (σ := Nat) (fun i => [(0, .sl 0 s n x), (1, .sl 1 s' n x'), (5, .int .i64 i)]) (fun i => [.arr (.prod (.int .i64) (.int .i64)) l 2 wr, .arr (.prod (.int .i64) (.int .i64)) l' 2 wr']) (fun i => n - i) (fun i => i ≤ n ∧ (seg l s n).take i = (seg l' s' n).take i) 0 ⟨Nat.zero_le _, by simp⟩ ?_ ?_
    · (repeat' ((try (conv => whnf)); first | (with_reducible first | refine And.intro ?_ ?_ | refine WX.of ?_) | exact zc | ((with_reducible refine VC.mk ?_); exact zw) | (with_reducible first | refine splitT ?_ | refine splitF ?_) | ((with_reducible refine splitM.mk (fun hsm => ?_) (fun hsm => ?_)) <;> (try exact zx)) | ((with_reducible refine splitB.mk (fun h => ?_) (fun h => ?_)) <;> (try simp only [zs, ne_eq] at h) <;> (try simp (disch := omega) only [w64] at h) <;> (try exact zx)) | (with_reducible intro hz; (try exact absurd hz (Nat.succ_ne_zero _)))))
    · intro i ⟨hi, hp⟩
      by_cases hlt : i < n
      · obtain ⟨⟨p, q⟩, ha⟩ := get_some (l := seg l s n) (i := i) (by omega)
        obtain ⟨⟨p', q'⟩, hb⟩ := get_some (l := seg l' s' n) (i := i) (by omega)
        (repeat' ((try (conv => whnf)); first | (with_reducible first | refine And.intro ?_ ?_ | refine WX.of ?_) | exact zc | ((with_reducible refine VC.mk ?_); exact zw) | refine atL_i ha ?_ | refine atL_i hb ?_ | (with_reducible first | refine splitT ?_ | refine splitF ?_) | ((with_reducible refine splitM.mk (fun hsm => ?_) (fun hsm => ?_)) <;> (try exact zx)) | ((with_reducible refine splitB.mk (fun h => ?_) (fun h => ?_)) <;> (try simp only [zs, ne_eq] at h) <;> (try simp (disch := omega) only [w64] at h) <;> (try exact zx)) | (with_reducible intro hz; (try exact absurd hz (Nat.succ_ne_zero _)))))
        · refine ⟨?_⟩; rw [decide_eq_false]; exact same_not ha hb (by simpa using h)
        · refine ⟨i + 1, by omega, ⟨hlt, same_step ha hb hp (by simpa using h)⟩, ?_⟩
          (repeat' ((try (conv => whnf)); first | (with_reducible first | refine And.intro ?_ ?_ | refine WX.of ?_) | exact zc | ((with_reducible refine VC.mk ?_); exact zw) | (with_reducible first | refine splitT ?_ | refine splitF ?_) | ((with_reducible refine splitM.mk (fun hsm => ?_) (fun hsm => ?_)) <;> (try exact zx)) | ((with_reducible refine splitB.mk (fun h => ?_) (fun h => ?_)) <;> (try simp only [zs, ne_eq] at h) <;> (try simp (disch := omega) only [w64] at h) <;> (try exact zx)) | (with_reducible intro hz; (try exact absurd hz (Nat.succ_ne_zero _)))))
      · (repeat' ((try (conv => whnf)); first | (with_reducible first | refine And.intro ?_ ?_ | refine WX.of ?_) | exact zc | ((with_reducible refine VC.mk ?_); exact zw) | (with_reducible first | refine splitT ?_ | refine splitF ?_) | ((with_reducible refine splitM.mk (fun hsm => ?_) (fun hsm => ?_)) <;> (try exact zx)) | ((with_reducible refine splitB.mk (fun h => ?_) (fun h => ?_)) <;> (try simp only [zs, ne_eq] at h) <;> (try simp (disch := omega) only [w64] at h) <;> (try exact zx)) | (with_reducible intro hz; (try exact absurd hz (Nat.succ_ne_zero _)))))
        obtain rfl : i = n := by omega
        refine ⟨?_⟩; rw [decide_eq_true]; exact same_end hL hM hp
def s_szFracS : Spec := fun args S => match args, S with
  | [.opt c 0 n 0, .int .i64 k], [.arrO (.prod (.int .i64) (.int .i64)) l 2] => ⟨(0 ≤ k ∧ k ≤ 1048576) ∧ n ≤ 9223372036854775807, .int .i64 (max (-1) (k - n)), [.arrO (.prod (.int .i64) (.int .i64)) l 2]⟩
  | _, _ => noSpec
theorem ok_szFracS : SpecOk Tryz.prog 122 s_szFracS := by
  intro args S h; unfold s_szFracS at h ⊢; (split at h <;> first | exact False.elim h | skip)
  dsimp only at h ⊢
  refine funW tabOk (E := []) trivial [] (k := 1) (fn := Tryz.f122) rfl rfl rfl rfl rfl rfl ?_
  (repeat' ((try (conv => whnf)); first | (with_reducible first | refine And.intro ?_ ?_ | refine WX.of ?_) | exact zc | ((with_reducible refine VC.mk ?_); exact zw) | (with_reducible first | refine splitT ?_ | refine splitF ?_) | ((with_reducible refine splitM.mk (fun hsm => ?_) (fun hsm => ?_)) <;> (try exact zx)) | ((with_reducible refine splitB.mk (fun h => ?_) (fun h => ?_)) <;> (try simp only [zs, ne_eq] at h) <;> (try simp (disch := omega) only [w64] at h) <;> (try exact zx)) | (with_reducible intro hz; (try exact absurd hz (Nat.succ_ne_zero _)))))
  all_goals (refine ⟨?_⟩; (try rw [w64 (by omega)]); congr 1; omega)
def s_nfOk : Spec := fun args S => match args, S with
  | [.agg [.int .i64 p, .int .i64 q]], [] => ⟨True, .bool (!fOk p q), []⟩
  | _, _ => noSpec
theorem ok_areValid1 : SpecOk Tryz.prog 115 s_nfOk := by
  intro args S h; unfold s_nfOk at h ⊢; (split at h <;> first | exact False.elim h | skip)
  dsimp only at h ⊢
  refine funW tabOk (E := [(102, s_fOk)]) ⟨ok_ValidFrac, trivial⟩ [] (k := 0) (fn := Tryz.f115) rfl rfl rfl rfl rfl rfl ?_
  (repeat' ((try (conv => whnf)); first | (with_reducible first | refine And.intro ?_ ?_ | refine WX.of ?_) | exact zc | ((with_reducible refine VC.mk ?_); exact zw) | (with_reducible first | refine splitT ?_ | refine splitF ?_) | ((with_reducible refine splitM.mk (fun hsm => ?_) (fun hsm => ?_)) <;> (try exact zx)) | ((with_reducible refine splitB.mk (fun h => ?_) (fun h => ?_)) <;> (try simp only [zs, ne_eq] at h) <;> (try simp (disch := omega) only [w64] at h) <;> (try exact zx)) | (with_reducible intro hz; (try exact absurd hz (Nat.succ_ne_zero _)))))
def nfOk (a : Int × Int) : Bool := !fOk a.1 a.2
def s_idxF (g : Nat) : Spec := fun args S => match args, S with
  | [.sl 0 s n x, .fn g' []], [.arr (.prod (.int .i64) (.int .i64)) l 2 wr] => ⟨g' = g ∧ s + n ≤ l.length ∧ n ≤ 4611686018427387904, .int .i64 (findI nfOk (seg l s n)), [.arr (.prod (.int .i64) (.int .i64)) l 2 wr]⟩
  | _, _ => noSpec
theorem ok_idxF : SpecOk Tryz.prog 154 (s_idxF 115) := by
  intro args S h; unfold s_idxF at h ⊢; (split at h <;> first | exact False.elim h | skip)
  dsimp only at h ⊢
  rename_i s n x g l wr
  obtain ⟨rfl, h1, h2⟩ := h
  have hL := seg_len h1
  refine funW tabOk (E := [(115, s_nfOk)]) ⟨ok_areValid1, trivial⟩ [] (k := 1) (fn := Tryz.f154) rfl rfl rfl rfl rfl rfl ?_
  (repeat' ((try (conv => whnf)); first | (with_reducible first | refine And.intro ?_ ?_ | refine WX.of ?_) | exact zc | ((with_reducible refine VC.mk ?_); exact zw) | (with_reducible first | refine splitT ?_ | refine splitF ?_) | ((with_reducible refine splitM.mk (fun hsm => ?_) (fun hsm => ?_)) <;> (try exact zx)) | ((with_reducible refine splitB.mk (fun h => ?_) (fun h => ?_)) <;> (try simp only [zs, ne_eq] at h) <;> (try simp (disch := omega) only [w64] at h) <;> (try exact zx)) | (with_reducible intro hz; (try exact absurd hz (Nat.succ_ne_zero _)))))
  refine loopW tabOk (E := [(115, s_nfOk)]) ⟨ok_areValid1, trivial⟩ [] (σ := Nat) (fun i => [(0, .sl 0 s n x), (1, .fn 115 []), (7, .int .i64 n), (8, .int .i64 i)]) (fun i => [.arr (.prod (.int .i64) (.int .i64)) l 2 wr]) (fun i => n - i) (fun i => i ≤ n ∧ ∀ (j : Nat) a, j < i → (seg l s n)[j]? = some a → nfOk a = false) 0 ⟨Nat.zero_le _, fun j a hj => by omega⟩ ?_ ?_
  · (repeat' ((try (conv => whnf)); first | (with_reducible first | refine And.intro ?_ ?_ | refine WX.of ?_) | exact zc | ((with_reducible refine VC.mk ?_); exact zw) | (with_reducible first | refine splitT ?_ | refine splitF ?_) | ((with_reducible refine splitM.mk (fun hsm => ?_) (fun hsm => ?_)) <;> (try exact zx)) | ((with_reducible refine splitB.mk (fun h => ?_) (fun h => ?_)) <;> (try simp only [zs, ne_eq] at h) <;> (try simp (disch := omega) only [w64] at h) <;> (try exact zx)) | (with_reducible intro hz; (try exact absurd hz (Nat.succ_ne_zero _)))))
  · intro i ⟨hi, hp⟩
    by_cases hlt : i < n
    · obtain ⟨a, ha⟩ := get_some (l := seg l s n) (i := i) (by omega)
      (repeat' ((try (conv => whnf)); first | (with_reducible first | refine And.intro ?_ ?_ | refine WX.of ?_) | exact zc | ((with_reducible refine VC.mk ?_); exact zw) | refine atL_i ha ?_ | (with_reducible first | refine splitT ?_ | refine splitF ?_) | ((with_reducible refine splitM.mk (fun hsm => ?_) (fun hsm => ?_)) <;> (try exact zx)) | ((with_reducible refine splitB.mk (fun h => ?_) (fun h => ?_)) <;> (try simp only [zs, ne_eq] at h) <;> (try simp (disch := omega) only [w64] at h) <;> (try exact zx)) | (with_reducible intro hz; (try exact absurd hz (Nat.succ_ne_zero _)))))
      · exact ⟨by rw [findI_some ha (by simpa [nfOk] using h) hp]⟩
      · refine ⟨i + 1, by omega, ⟨hlt, upto_step ha (by simpa [nfOk] using h) hp⟩, ?_⟩
        (repeat' ((try (conv => whnf)); first | (with_reducible first | refine And.intro ?_ ?_ | refine WX.of ?_) | exact zc | ((with_reducible refine VC.mk ?_); exact zw) | (with_reducible first | refine splitT ?_ | refine splitF ?_) | ((with_reducible refine splitM.mk (fun hsm => ?_) (fun hsm => ?_)) <;> (try exact zx)) | ((with_reducible refine splitB.mk (fun h => ?_) (fun h => ?_)) <;> (try simp only [zs, ne_eq] at h) <;> (try simp (disch := omega) only [w64] at h) <;> (try exact zx)) | (with_reducible intro hz; (try exact absurd hz (Nat.succ_ne_zero _)))))
    · (repeat' ((try (conv => whnf)); first | (with_reducible first | refine And.intro ?_ ?_ | refine WX.of ?_) | exact zc | ((with_reducible refine VC.mk ?_); exact zw) | (with_reducible first | refine splitT ?_ | refine splitF ?_) | ((with_reducible refine splitM.mk (fun hsm => ?_) (fun hsm => ?_)) <;> (try exact zx)) | ((with_reducible refine splitB.mk (fun h => ?_) (fun h => ?_)) <;> (try simp only [zs, ne_eq] at h) <;> (try simp (disch := omega) only [w64] at h) <;> (try exact zx)) | (with_reducible intro hz; (try exact absurd hz (Nat.succ_ne_zero _)))))
      exact ⟨by rw [findI_none fun j a hj => hp j a (by have := (List.getElem?_eq_some_iff.1 hj).1; omega) hj]⟩
def s_anyF (g : Nat) : Spec := fun args S => match args, S with
  | [.sl 0 s n x, .fn g' []], [.arr (.prod (.int .i64) (.int .i64)) l 2 wr] => ⟨g' = g ∧ s + n ≤ l.length ∧ n ≤ 4611686018427387904, .bool ((seg l s n).any nfOk), [.arr (.prod (.int .i64) (.int .i64)) l 2 wr]⟩
  | _, _ => noSpec
theorem ok_anyF : SpecOk Tryz.prog 114 (s_anyF 115) := by
  intro args S h; unfold s_anyF at h ⊢; (split at h <;> first | exact False.elim h | skip)
  dsimp only at h ⊢
  rename_i s n x g l wr
  obtain ⟨rfl, h1, h2⟩ := h
  refine funW tabOk (E := [(154, (s_idxF 115))]) ⟨ok_idxF, trivial⟩ [] (k := 1) (fn := Tryz.f114) rfl rfl rfl rfl rfl rfl ?_
  (repeat' ((try (conv => whnf)); first | (with_reducible first | refine And.intro ?_ ?_ | refine WX.of ?_) | exact zc | ((with_reducible refine VC.mk ?_); exact zw) | (with_reducible first | refine splitT ?_ | refine splitF ?_) | ((with_reducible refine splitM.mk (fun hsm => ?_) (fun hsm => ?_)) <;> (try exact zx)) | ((with_reducible refine splitB.mk (fun h => ?_) (fun h => ?_)) <;> (try simp only [zs, ne_eq] at h) <;> (try simp (disch := omega) only [w64] at h) <;> (try exact zx)) | (with_reducible intro hz; (try exact absurd hz (Nat.succ_ne_zero _)))))
  exact ⟨by rw [findI_any]⟩
/-- Valid fractions. -/
def allF (L : List (Int × Int)) : Bool := L.all fun a => fOk a.1 a.2
def s_allF : Spec := fun args S => match args, S with
  | [.sl 0 s n x], [.arr (.prod (.int .i64) (.int .i64)) l 2 wr] => ⟨s + n ≤ l.length ∧ n ≤ 4611686018427387904, .bool (allF (seg l s n)), [.arr (.prod (.int .i64) (.int .i64)) l 2 wr]⟩
  | _, _ => noSpec
theorem ok_areValid : SpecOk Tryz.prog 61 s_allF := by
  intro args S h; unfold s_allF at h ⊢; (split at h <;> first | exact False.elim h | skip)
  dsimp only at h ⊢
  refine funW tabOk (E := [(114, (s_anyF 115))]) ⟨ok_anyF, trivial⟩ [] (k := 1) (fn := Tryz.f61) rfl rfl rfl rfl rfl rfl ?_
  (repeat' ((try (conv => whnf)); first | (with_reducible first | refine And.intro ?_ ?_ | refine WX.of ?_) | exact zc | ((with_reducible refine VC.mk ?_); exact zw) | (with_reducible first | refine splitT ?_ | refine splitF ?_) | ((with_reducible refine splitM.mk (fun hsm => ?_) (fun hsm => ?_)) <;> (try exact zx)) | ((with_reducible refine splitB.mk (fun h => ?_) (fun h => ?_)) <;> (try simp only [zs, ne_eq] at h) <;> (try simp (disch := omega) only [w64] at h) <;> (try exact zx)) | (with_reducible intro hz; (try exact absurd hz (Nat.succ_ne_zero _)))))
  all_goals (refine ⟨?_⟩; unfold allF; rw [List.all_eq_not_any_not]; rfl)
theorem floor_t {a b : Int} (hb : 0 < b) : (a.tmod b < 0 → a.tdiv b - 1 = a / b ∧ a < 0 ∧ a / b < 0) ∧ (0 ≤ a.tmod b → a.tdiv b = a / b) ∧ (a < 0 → a.tmod b ≤ 0) := by
  have h1 := Int.tdiv_eq_ediv (a := a) (b := b)
  have h2 := Int.tmod_eq_emod (a := a) (b := b)
  have h3 := Int.emod_nonneg a (show b ≠ 0 by omega)
  have h4 := Int.emod_lt_of_pos a hb
  have hs : b.sign = 1 := Int.sign_eq_one_of_pos hb
  rw [hs] at h1
  have h7 : a < 0 → a / b < 0 := fun h => Int.ediv_neg_of_neg_of_pos h hb
  split at h1
  · rename_i h
    rw [if_pos h] at h2
    refine ⟨by omega, by omega, fun h5 => ?_⟩
    have h6 : b ∣ a := by rcases h with h | h; omega; exact h
    have := Int.emod_eq_zero_of_dvd h6
    omega
  · rename_i h
    rw [if_neg h] at h2
    have : a < 0 := by apply Classical.byContradiction; intro h9; exact h (.inl (by omega))
    have := h7 this
    omega
theorem ediv_b {a b M : Int} (hb : 0 < b) (h : -M ≤ a ∧ a ≤ M) : -M ≤ a / b ∧ a / b ≤ M := ediv_small hb h
def s_floor : Spec := fun args S => match args, S with
  | [.int .i64 a, .int .i64 b], [] => ⟨0 < b ∧ b < 9223372036854775808 ∧ -9223372036854775807 ≤ a ∧ a ≤ 9223372036854775807, .int .i64 (a / b), []⟩
  | _, _ => noSpec
theorem ok_floorDiv : SpecOk Tryz.prog 201 s_floor := by
  intro args S h; unfold s_floor at h ⊢; (split at h <;> first | exact False.elim h | skip)
  dsimp only at h ⊢
  rename_i a b
  have ht := floor_t (a := a) h.1
  have hq := ediv_b h.1 h.2.2
  have hr := Int.tmod_lt_of_pos a h.1
  refine funW tabOk (E := []) trivial [] (k := 0) (fn := Tryz.f201) rfl rfl rfl rfl rfl rfl ?_
  (repeat' ((try (conv => whnf)); first | (with_reducible first | refine And.intro ?_ ?_ | refine WX.of ?_) | exact zc | ((with_reducible refine VC.mk ?_); exact zw) | (with_reducible first | refine splitT ?_ | refine splitF ?_) | ((with_reducible refine splitM.mk (fun hsm => ?_) (fun hsm => ?_)) <;> (try exact zx)) | ((with_reducible refine splitB.mk (fun h => ?_) (fun h => ?_)) <;> (try simp only [zs, ne_eq] at h) <;> (try simp (disch := omega) only [w64] at h) <;> (try exact zx)) | (with_reducible intro hz; (try exact absurd hz (Nat.succ_ne_zero _)))))
  · rename_i h0
    simp [show ¬ b < 0 by omega] at h
    have ht1 := ht.1 (by omega)
    refine ⟨?_⟩
    rw [show a.tdiv b = a / b + 1 by omega, w64 (n := a / b + 1) (by omega), w64 (by omega)]; simp
  · simp [show ¬ b < 0 by omega] at h
    have ht1 := ht.2.1 (by omega)
    refine ⟨?_⟩
    rw [ht1, w64 (by omega)]
theorem ok_l01Down : SpecOk Tryz.prog 193 s_floor := by
  intro args S h; unfold s_floor at h ⊢; (split at h <;> first | exact False.elim h | skip)
  dsimp only at h ⊢
  rename_i a b
  have ht := floor_t (a := a) h.1
  have hq := ediv_b h.1 h.2.2
  refine funW tabOk (E := []) trivial [] (k := 0) (fn := Tryz.f193) rfl rfl rfl rfl rfl rfl ?_
  (repeat' ((try (conv => whnf)); first | (with_reducible first | refine And.intro ?_ ?_ | refine WX.of ?_) | exact zc | ((with_reducible refine VC.mk ?_); exact zw) | (with_reducible first | refine splitT ?_ | refine splitF ?_) | ((with_reducible refine splitM.mk (fun hsm => ?_) (fun hsm => ?_)) <;> (try exact zx)) | ((with_reducible refine splitB.mk (fun h => ?_) (fun h => ?_)) <;> (try simp only [zs, ne_eq] at h) <;> (try simp (disch := omega) only [w64] at h) <;> (try exact zx)) | (with_reducible intro hz; (try exact absurd hz (Nat.succ_ne_zero _)))))
/-- A name of 1 to 12 letters. -/
def letB (c : UInt8) : Bool := decide (97 ≤ c.toNat ∧ c.toNat ≤ 122)
def wordB (s : List UInt8) : Bool := decide (1 ≤ s.length ∧ s.length ≤ 12) && s.all letB
def s_word : Spec := fun args S => match args, S with
  | [.str s], [] => ⟨s.length ≤ 9223372036854775807, .bool (wordB s), []⟩
  | _, _ => noSpec
theorem word_no {s : List UInt8} {i : Nat} {c : UInt8} (h : s[i]? = some c) (hc : letB c = false) : wordB s = false := by
  unfold wordB
  have : s.all letB = false := by
    rw [List.all_eq_false]
    exact ⟨c, List.mem_of_getElem? h, by simp [hc]⟩
  rw [this]; simp
theorem word_all {s : List UInt8} (h : ∀ (j : Nat) c, s[j]? = some c → letB c = true) : s.all letB = true := by
  rw [List.all_eq_true]
  intro c hc
  obtain ⟨j, hj⟩ := List.getElem?_of_mem hc
  exact h j c hj
theorem ok_isWord : SpecOk Tryz.prog 98 s_word := by
  intro args S h; unfold s_word at h ⊢; (split at h <;> first | exact False.elim h | skip)
  dsimp only at h ⊢
  rename_i s
  refine funW tabOk (E := [(101, s_within)]) ⟨ok_within, trivial⟩ [] (k := 0) (fn := Tryz.f98) rfl rfl rfl rfl rfl rfl ?_
  (repeat' ((try (conv => whnf)); first | (with_reducible first | refine And.intro ?_ ?_ | refine WX.of ?_) | exact zc | ((with_reducible refine VC.mk ?_); exact zw) | (with_reducible first | refine splitT ?_ | refine splitF ?_) | ((with_reducible refine splitM.mk (fun hsm => ?_) (fun hsm => ?_)) <;> (try exact zx)) | ((with_reducible refine splitB.mk (fun h => ?_) (fun h => ?_)) <;> (try simp only [zs, ne_eq] at h) <;> (try simp (disch := omega) only [w64] at h) <;> (try exact zx)) | (with_reducible intro hz; (try exact absurd hz (Nat.succ_ne_zero _)))))
  refine loopW tabOk (E := [(101, s_within)]) ⟨ok_within, trivial⟩ [] (σ := Nat) (fun i => [(0, .str s), (5, .int .i64 s.length), (6, .int .i64 i)]) (fun i => []) (fun i => s.length - i) (fun i => i ≤ s.length ∧ ∀ (j : Nat) c, j < i → s[j]? = some c → letB c = true) 0 ⟨Nat.zero_le _, fun j a hj => by omega⟩ ?_ ?_
  · (repeat' ((try (conv => whnf)); first | (with_reducible first | refine And.intro ?_ ?_ | refine WX.of ?_) | exact zc | ((with_reducible refine VC.mk ?_); exact zw) | (with_reducible first | refine splitT ?_ | refine splitF ?_) | ((with_reducible refine splitM.mk (fun hsm => ?_) (fun hsm => ?_)) <;> (try exact zx)) | ((with_reducible refine splitB.mk (fun h => ?_) (fun h => ?_)) <;> (try simp only [zs, ne_eq] at h) <;> (try simp (disch := omega) only [w64] at h) <;> (try exact zx)) | (with_reducible intro hz; (try exact absurd hz (Nat.succ_ne_zero _)))))
  · intro i ⟨hi, hp⟩
    by_cases hlt : i < s.length
    · obtain ⟨c, hc⟩ := get_some (l := s) (i := i) (by omega)
      (repeat' ((try (conv => whnf)); first | (with_reducible first | refine And.intro ?_ ?_ | refine WX.of ?_) | exact zc | ((with_reducible refine VC.mk ?_); exact zw) | refine atL_n hc ?_ | (with_reducible first | refine splitT ?_ | refine splitF ?_) | ((with_reducible refine splitM.mk (fun hsm => ?_) (fun hsm => ?_)) <;> (try exact zx)) | ((with_reducible refine splitB.mk (fun h => ?_) (fun h => ?_)) <;> (try simp only [zs, ne_eq] at h) <;> (try simp (disch := omega) only [w64] at h) <;> (try exact zx)) | (with_reducible intro hz; (try exact absurd hz (Nat.succ_ne_zero _)))))
      · exact ⟨by rw [word_no hc (by unfold letB; rw [decide_eq_false]; omega)]⟩
      · exact ⟨by rw [word_no hc (by unfold letB; rw [decide_eq_false]; omega)]⟩
      · refine ⟨i + 1, by omega, ⟨hlt, upto_step hc (by unfold letB; rw [decide_eq_true]; omega) hp⟩, ?_⟩
        (repeat' ((try (conv => whnf)); first | (with_reducible first | refine And.intro ?_ ?_ | refine WX.of ?_) | exact zc | ((with_reducible refine VC.mk ?_); exact zw) | (with_reducible first | refine splitT ?_ | refine splitF ?_) | ((with_reducible refine splitM.mk (fun hsm => ?_) (fun hsm => ?_)) <;> (try exact zx)) | ((with_reducible refine splitB.mk (fun h => ?_) (fun h => ?_)) <;> (try simp only [zs, ne_eq] at h) <;> (try simp (disch := omega) only [w64] at h) <;> (try exact zx)) | (with_reducible intro hz; (try exact absurd hz (Nat.succ_ne_zero _)))))
    · (repeat' ((try (conv => whnf)); first | (with_reducible first | refine And.intro ?_ ?_ | refine WX.of ?_) | exact zc | ((with_reducible refine VC.mk ?_); exact zw) | (with_reducible first | refine splitT ?_ | refine splitF ?_) | ((with_reducible refine splitM.mk (fun hsm => ?_) (fun hsm => ?_)) <;> (try exact zx)) | ((with_reducible refine splitB.mk (fun h => ?_) (fun h => ?_)) <;> (try simp only [zs, ne_eq] at h) <;> (try simp (disch := omega) only [w64] at h) <;> (try exact zx)) | (with_reducible intro hz; (try exact absurd hz (Nat.succ_ne_zero _)))))
      have ha := word_all fun j c hj => hp j c (by have := (List.getElem?_eq_some_iff.1 hj).1; omega) hj
      refine ⟨congrArg SV.bool ?_⟩
      unfold wordB; rw [ha, Bool.and_true, decide_eq_decide]; omega
theorem ok_l05Name : SpecOk Tryz.prog 103 s_word := by
  intro args S h; unfold s_word at h ⊢; (split at h <;> first | exact False.elim h | skip)
  dsimp only at h ⊢
  rename_i s
  refine funW tabOk (E := []) trivial [] (k := 0) (fn := Tryz.f103) rfl rfl rfl rfl rfl rfl ?_
  (repeat' ((try (conv => whnf)); first | (with_reducible first | refine And.intro ?_ ?_ | refine WX.of ?_) | exact zc | ((with_reducible refine VC.mk ?_); exact zw) | (with_reducible first | refine splitT ?_ | refine splitF ?_) | ((with_reducible refine splitM.mk (fun hsm => ?_) (fun hsm => ?_)) <;> (try exact zx)) | ((with_reducible refine splitB.mk (fun h => ?_) (fun h => ?_)) <;> (try simp only [zs, ne_eq] at h) <;> (try simp (disch := omega) only [w64] at h) <;> (try exact zx)) | (with_reducible intro hz; (try exact absurd hz (Nat.succ_ne_zero _)))))
  · refine ⟨congrArg SV.bool ?_⟩; unfold wordB; rw [decide_eq_false (by omega)]; rfl
  · refine ⟨congrArg SV.bool ?_⟩; unfold wordB; rw [decide_eq_false (by omega)]; rfl
  · refine loopW tabOk (E := []) trivial [] (σ := Nat) (fun i => [(0, .str s), (3, .int .i64 i)]) (fun i => []) (fun i => s.length - i) (fun i => i ≤ s.length ∧ ∀ (j : Nat) c, j < i → s[j]? = some c → letB c = true) 0 ⟨Nat.zero_le _, fun j a hj => by omega⟩ ?_ ?_
    · (repeat' ((try (conv => whnf)); first | (with_reducible first | refine And.intro ?_ ?_ | refine WX.of ?_) | exact zc | ((with_reducible refine VC.mk ?_); exact zw) | (with_reducible first | refine splitT ?_ | refine splitF ?_) | ((with_reducible refine splitM.mk (fun hsm => ?_) (fun hsm => ?_)) <;> (try exact zx)) | ((with_reducible refine splitB.mk (fun h => ?_) (fun h => ?_)) <;> (try simp only [zs, ne_eq] at h) <;> (try simp (disch := omega) only [w64] at h) <;> (try exact zx)) | (with_reducible intro hz; (try exact absurd hz (Nat.succ_ne_zero _)))))
    · intro i ⟨hi, hp⟩
      by_cases hlt : i < s.length
      · obtain ⟨c, hc⟩ := get_some (l := s) (i := i) (by omega)
        (repeat' ((try (conv => whnf)); first | (with_reducible first | refine And.intro ?_ ?_ | refine WX.of ?_) | exact zc | ((with_reducible refine VC.mk ?_); exact zw) | refine atL_n hc ?_ | (with_reducible first | refine splitT ?_ | refine splitF ?_) | ((with_reducible refine splitM.mk (fun hsm => ?_) (fun hsm => ?_)) <;> (try exact zx)) | ((with_reducible refine splitB.mk (fun h => ?_) (fun h => ?_)) <;> (try simp only [zs, ne_eq] at h) <;> (try simp (disch := omega) only [w64] at h) <;> (try exact zx)) | (with_reducible intro hz; (try exact absurd hz (Nat.succ_ne_zero _)))))
        · exact ⟨by rw [word_no hc (by unfold letB; rw [decide_eq_false]; omega)]⟩
        · exact ⟨by rw [word_no hc (by unfold letB; rw [decide_eq_false]; omega)]⟩
        · refine ⟨i + 1, by omega, ⟨hlt, upto_step hc (by unfold letB; rw [decide_eq_true]; omega) hp⟩, ?_⟩
          (repeat' ((try (conv => whnf)); first | (with_reducible first | refine And.intro ?_ ?_ | refine WX.of ?_) | exact zc | ((with_reducible refine VC.mk ?_); exact zw) | (with_reducible first | refine splitT ?_ | refine splitF ?_) | ((with_reducible refine splitM.mk (fun hsm => ?_) (fun hsm => ?_)) <;> (try exact zx)) | ((with_reducible refine splitB.mk (fun h => ?_) (fun h => ?_)) <;> (try simp only [zs, ne_eq] at h) <;> (try simp (disch := omega) only [w64] at h) <;> (try exact zx)) | (with_reducible intro hz; (try exact absurd hz (Nat.succ_ne_zero _)))))
      · (repeat' ((try (conv => whnf)); first | (with_reducible first | refine And.intro ?_ ?_ | refine WX.of ?_) | exact zc | ((with_reducible refine VC.mk ?_); exact zw) | (with_reducible first | refine splitT ?_ | refine splitF ?_) | ((with_reducible refine splitM.mk (fun hsm => ?_) (fun hsm => ?_)) <;> (try exact zx)) | ((with_reducible refine splitB.mk (fun h => ?_) (fun h => ?_)) <;> (try simp only [zs, ne_eq] at h) <;> (try simp (disch := omega) only [w64] at h) <;> (try exact zx)) | (with_reducible intro hz; (try exact absurd hz (Nat.succ_ne_zero _)))))
        have ha := word_all fun j c hj => hp j c (by have := (List.getElem?_eq_some_iff.1 hj).1; omega) hj
        refine ⟨congrArg SV.bool ?_⟩
        unfold wordB; rw [ha, Bool.and_true, decide_eq_true (by omega)]
theorem red_pos {p q : Int} (hq : 0 < q) : redP p q = p / redG p q ∧ redQ p q = q / redG p q := by
  unfold redP redQ; rw [if_neg (by omega), if_neg (by omega)]; exact ⟨rfl, rfl⟩
theorem red_back {p q : Int} (hq : 0 < q) : p = redG p q * redP p q ∧ q = redG p q * redQ p q := by
  rw [(red_pos hq).1, (red_pos hq).2]
  exact ⟨(Int.mul_ediv_cancel' (Int.gcd_dvd_left ..)).symm, (Int.mul_ediv_cancel' (Int.gcd_dvd_right ..)).symm⟩
theorem redQ_pos {p q : Int} (hq : 0 < q) : 0 < redQ p q := by
  have hg := redG_pos (p := p) (q := q) (by omega)
  have h := (red_back (p := p) hq).2
  apply Classical.byContradiction; intro h2
  have h3 : redG p q * redQ p q ≤ 0 := by
    have := Int.mul_nonneg (show 0 ≤ redG p q by omega) (show 0 ≤ -redQ p q by omega)
    rw [Int.mul_neg] at this; omega
  omega
/-- Small fractions are valid. -/
theorem redOk_small {p q : Int} (hp : -1000000000 ≤ p ∧ p ≤ 1000000000) (hq : 1 ≤ q ∧ q ≤ 1000000000) : redOk p q = true := by
  have hg := redG_pos (p := p) (q := q) (by omega)
  have e := red_pos (p := p) (q := q) (by omega)
  have h1 := redQ_pos (p := p) (q := q) (by omega)
  have h2 := ediv_small hg hp
  have h3 := ediv_small hg (p := q) (M := 1000000000) (by omega)
  have hgc : Int.gcd (redP p q) (redQ p q) = 1 := by
    rw [e.1, e.2]
    exact Int.gcd_ediv_gcd_ediv_gcd (by unfold redG at hg; omega)
  unfold redOk
  rw [fOk_iff]
  rw [← e.1, ← e.2] at *
  exact ⟨by omega, by omega, by omega, by omega, hgc⟩
/-- Comparing. -/
def cmpF (p q p' q' : Int) : Int := if p * q' < p' * q then -1 else if p * q' > p' * q then 1 else 0
def s_cmp : Spec := fun args S => match args, S with
  | [.agg [.int .i64 p, .int .i64 q], .agg [.int .i64 p', .int .i64 q']], [] => ⟨smF p q ∧ smF p' q', .int .i64 (cmpF p q p' q'), []⟩
  | _, _ => noSpec
theorem ok_compare : SpecOk Tryz.prog 50 s_cmp := by
  intro args S h; unfold s_cmp at h ⊢; (split at h <;> first | exact False.elim h | skip)
  dsimp only at h ⊢
  rename_i p q p' q'
  have hm := smF_mul h.1 h.2
  have hm' := smF_mul h.2 h.1
  refine funW tabOk (E := []) trivial [] (k := 0) (fn := Tryz.f50) rfl rfl rfl rfl rfl rfl ?_
  (repeat' ((try (conv => whnf)); first | (with_reducible first | refine And.intro ?_ ?_ | refine WX.of ?_) | exact zc | ((with_reducible refine VC.mk ?_); exact zw) | (with_reducible first | refine splitT ?_ | refine splitF ?_) | ((with_reducible refine splitM.mk (fun hsm => ?_) (fun hsm => ?_)) <;> (try exact zx)) | ((with_reducible refine splitB.mk (fun h => ?_) (fun h => ?_)) <;> (try simp only [zs, ne_eq] at h) <;> (try simp (disch := omega) only [w64] at h) <;> (try exact zx)) | (with_reducible intro hz; (try exact absurd hz (Nat.succ_ne_zero _)))))
  all_goals (refine ⟨?_⟩; unfold cmpF; first | (rw [if_pos (by omega)]; done) | (rw [if_neg (by omega), if_pos (by omega)]; done) | (rw [if_neg (by omega), if_neg (by omega)]))
theorem ok_l01Cmp : SpecOk Tryz.prog 58 s_cmp := by
  intro args S h; unfold s_cmp at h ⊢; (split at h <;> first | exact False.elim h | skip)
  dsimp only at h ⊢
  rename_i p q p' q'
  have hm := smF_mul h.1 h.2
  have hm' := smF_mul h.2 h.1
  refine funW tabOk (E := []) trivial [] (k := 0) (fn := Tryz.f58) rfl rfl rfl rfl rfl rfl ?_
  (repeat' ((try (conv => whnf)); first | (with_reducible first | refine And.intro ?_ ?_ | refine WX.of ?_) | exact zc | ((with_reducible refine VC.mk ?_); exact zw) | (with_reducible first | refine splitT ?_ | refine splitF ?_) | ((with_reducible refine splitM.mk (fun hsm => ?_) (fun hsm => ?_)) <;> (try exact zx)) | ((with_reducible refine splitB.mk (fun h => ?_) (fun h => ?_)) <;> (try simp only [zs, ne_eq] at h) <;> (try simp (disch := omega) only [w64] at h) <;> (try exact zx)) | (with_reducible intro hz; (try exact absurd hz (Nat.succ_ne_zero _)))))
  all_goals (refine ⟨?_⟩; unfold cmpF; first | (rw [if_pos (by omega)]; done) | (rw [if_neg (by omega), if_pos (by omega)]; done) | (rw [if_neg (by omega), if_neg (by omega)]))
theorem cmpF_le {p q p' q' : Int} : cmpF p q p' q' ≤ 0 ↔ p * q' ≤ p' * q := by unfold cmpF; (repeat' split) <;> omega
theorem cmpF_ge {p q p' q' : Int} : 0 ≤ cmpF p q p' q' ↔ p' * q ≤ p * q' := by unfold cmpF; (repeat' split) <;> omega
theorem cmpF_gt {p q p' q' : Int} : 0 < cmpF p q p' q' ↔ p' * q < p * q' := by unfold cmpF; (repeat' split) <;> omega
/-- The greater and the lesser one. -/
def moF (p q p' q' : Int) : Int × Int := if p' * q ≤ p * q' then (p, q) else (p', q')
def s_more : Spec := fun args S => match args, S with
  | [.agg [.int .i64 p, .int .i64 q], .agg [.int .i64 p', .int .i64 q']], [] => ⟨smF p q ∧ smF p' q', .agg [.int .i64 (moF p q p' q').1, .int .i64 (moF p q p' q').2], []⟩
  | _, _ => noSpec
theorem ok_greater : SpecOk Tryz.prog 120 s_more := by
  intro args S h; unfold s_more at h ⊢; (split at h <;> first | exact False.elim h | skip)
  dsimp only at h ⊢
  rename_i p q p' q'
  have hc := cmpF_ge (p := p) (q := q) (p' := p') (q' := q')
  refine funW tabOk (E := [(50, s_cmp)]) ⟨ok_compare, trivial⟩ [] (k := 0) (fn := Tryz.f120) rfl rfl rfl rfl rfl rfl ?_
  (repeat' ((try (conv => whnf)); first | (with_reducible first | refine And.intro ?_ ?_ | refine WX.of ?_) | exact zc | ((with_reducible refine VC.mk ?_); exact zw) | (with_reducible first | refine splitT ?_ | refine splitF ?_) | ((with_reducible refine splitM.mk (fun hsm => ?_) (fun hsm => ?_)) <;> (try exact zx)) | ((with_reducible refine splitB.mk (fun h => ?_) (fun h => ?_)) <;> (try simp only [zs, ne_eq] at h) <;> (try simp (disch := omega) only [w64] at h) <;> (try exact zx)) | (with_reducible intro hz; (try exact absurd hz (Nat.succ_ne_zero _)))))
  all_goals (refine ⟨?_⟩; unfold moF; first | rw [if_pos (by omega)] | rw [if_neg (by omega)])
theorem ok_l01More : SpecOk Tryz.prog 194 s_more := by
  intro args S h; unfold s_more at h ⊢; (split at h <;> first | exact False.elim h | skip)
  dsimp only at h ⊢
  rename_i p q p' q'
  have hc := cmpF_gt (p := p') (q := q') (p' := p) (q' := q)
  refine funW tabOk (E := [(58, s_cmp)]) ⟨ok_l01Cmp, trivial⟩ [] (k := 0) (fn := Tryz.f194) rfl rfl rfl rfl rfl rfl ?_
  (repeat' ((try (conv => whnf)); first | (with_reducible first | refine And.intro ?_ ?_ | refine WX.of ?_) | exact zc | ((with_reducible refine VC.mk ?_); exact zw) | (with_reducible first | refine splitT ?_ | refine splitF ?_) | ((with_reducible refine splitM.mk (fun hsm => ?_) (fun hsm => ?_)) <;> (try exact zx)) | ((with_reducible refine splitB.mk (fun h => ?_) (fun h => ?_)) <;> (try simp only [zs, ne_eq] at h) <;> (try simp (disch := omega) only [w64] at h) <;> (try exact zx)) | (with_reducible intro hz; (try exact absurd hz (Nat.succ_ne_zero _)))))
  all_goals first | exact ⟨⟨h.2, h.1⟩⟩ | (refine ⟨?_⟩; unfold moF; first | rw [if_pos (by omega)] | rw [if_neg (by omega)])
theorem smF_mo {p q p' q' : Int} (h : smF p q) (h' : smF p' q') : smF (moF p q p' q').1 (moF p q p' q').2 := by unfold moF; split <;> assumption
/-- A valid span. -/
def spOk (p q p' q' : Int) : Bool := fOk p q && fOk p' q' && decide (p * q' ≤ p' * q)
theorem spOk_iff {p q p' q' : Int} : spOk p q p' q' = true ↔ fOk p q = true ∧ fOk p' q' = true ∧ p * q' ≤ p' * q := by simp [spOk, and_assoc]
def s_vSpan : Spec := fun args S => match args, S with
  | [.agg [.int .i64 p, .int .i64 q, .int .i64 p', .int .i64 q']], [] => ⟨True, .bool (spOk p q p' q'), []⟩
  | _, _ => noSpec
theorem allF_two {p q p' q' : Int} : allF (seg [(p, q), (p', q')] 0 2) = (fOk p q && fOk p' q') := by simp [allF, seg]
theorem ok_ValidSpan : SpecOk Tryz.prog 59 s_vSpan := by
  intro args S h; unfold s_vSpan at h ⊢; (split at h <;> first | exact False.elim h | skip)
  dsimp only at h ⊢
  rename_i p q p' q'
  have hc := cmpF_le (p := p) (q := q) (p' := p') (q' := q')
  refine funW tabOk (E := [(61, s_allF), (50, s_cmp)]) ⟨ok_areValid, ok_compare, trivial⟩ [] (k := 0) (fn := Tryz.f59) rfl rfl rfl rfl rfl rfl ?_
  (repeat' ((try (conv => whnf)); first | (with_reducible first | refine And.intro ?_ ?_ | refine WX.of ?_) | exact zc | ((with_reducible refine VC.mk ?_); exact zw) | (with_reducible first | refine splitT ?_ | refine splitF ?_) | ((with_reducible refine splitM.mk (fun hsm => ?_) (fun hsm => ?_)) <;> (try exact zx)) | ((with_reducible refine splitB.mk (fun h => ?_) (fun h => ?_)) <;> (try simp only [zs, ne_eq] at h) <;> (try simp (disch := omega) only [w64] at h) <;> (try exact zx)) | (with_reducible intro hz; (try exact absurd hz (Nat.succ_ne_zero _)))))
  · exact ⟨⟨Nat.le_refl 2, by omega⟩⟩
  · rw [allF_two, Bool.and_eq_true] at h
    exact ⟨⟨smF_ok h.1, smF_ok h.2⟩⟩
  · rw [allF_two, Bool.and_eq_true] at h
    refine ⟨congrArg SV.bool ?_⟩
    simp only [hc]; simp [spOk, h]
  · rw [allF_two] at h
    refine ⟨congrArg SV.bool ?_⟩
    simp only [spOk, h]; rfl
end Go.Proofs.YtonnkpclllmkoaaGreat.Eng
set_option linter.unusedVariables false
set_option linter.unusedSimpArgs false
namespace Go.Proofs.YtonnkpclllmkoaaGreat.Eng
open Go Go.RowKit
set_option maxRecDepth 100000
abbrev SpT : Type := (Int × Int) × Int × Int
def spB (s : SpT) : Bool := spOk s.1.1 s.1.2 s.2.1 s.2.2
def nspB (s : SpT) : Bool := !spB s
def s_nvSp : Spec := fun args S => match args, S with
  | [.agg [.int .i64 p, .int .i64 q, .int .i64 p', .int .i64 q']], [] => ⟨True, .bool (!spOk p q p' q'), []⟩
  | _, _ => noSpec
theorem ok_areSpans1 : SpecOk Tryz.prog 110 s_nvSp := by
  intro args S h; unfold s_nvSp at h ⊢; (split at h <;> first | exact False.elim h | skip)
  dsimp only at h ⊢
  refine funW tabOk (E := [(59, s_vSpan)]) ⟨ok_ValidSpan, trivial⟩ [] (k := 0) (fn := Tryz.f110) rfl rfl rfl rfl rfl rfl ?_
  (repeat' ((try (conv => whnf)); first | (with_reducible first | refine And.intro ?_ ?_ | refine WX.of ?_) | exact zc | ((with_reducible refine VC.mk ?_); exact zw) | (with_reducible first | refine splitT ?_ | refine splitF ?_) | ((with_reducible refine splitM.mk (fun hsm => ?_) (fun hsm => ?_)) <;> (try exact zx)) | ((with_reducible refine splitB.mk (fun h => ?_) (fun h => ?_)) <;> (try simp only [zs, ne_eq] at h) <;> (try simp (disch := omega) only [w64] at h) <;> (try exact zx)) | (with_reducible intro hz; (try exact absurd hz (Nat.succ_ne_zero _)))))
def s_idxSp (g : Nat) : Spec := fun args S => match args, S with
  | [.sl 0 s n x, .fn g' []], [.arr (.prod (.prod (.int .i64) (.int .i64)) (.prod (.int .i64) (.int .i64))) l 4 wr] => ⟨g' = g ∧ s + n ≤ l.length ∧ n ≤ 4611686018427387904, .int .i64 (findI nspB (seg l s n)), [.arr (.prod (.prod (.int .i64) (.int .i64)) (.prod (.int .i64) (.int .i64))) l 4 wr]⟩
  | _, _ => noSpec
theorem ok_idxSp : SpecOk Tryz.prog 150 (s_idxSp 110) := by
  intro args S h; unfold s_idxSp at h ⊢; (split at h <;> first | exact False.elim h | skip)
  dsimp only at h ⊢
  rename_i s n x g l wr
  obtain ⟨rfl, h1, h2⟩ := h
  have hL := seg_len h1
  refine funW tabOk (E := [(110, s_nvSp)]) ⟨ok_areSpans1, trivial⟩ [] (k := 1) (fn := Tryz.f150) rfl rfl rfl rfl rfl rfl ?_
  (repeat' ((try (conv => whnf)); first | (with_reducible first | refine And.intro ?_ ?_ | refine WX.of ?_) | exact zc | ((with_reducible refine VC.mk ?_); exact zw) | (with_reducible first | refine splitT ?_ | refine splitF ?_) | ((with_reducible refine splitM.mk (fun hsm => ?_) (fun hsm => ?_)) <;> (try exact zx)) | ((with_reducible refine splitB.mk (fun h => ?_) (fun h => ?_)) <;> (try simp only [zs, ne_eq] at h) <;> (try simp (disch := omega) only [w64] at h) <;> (try exact zx)) | (with_reducible intro hz; (try exact absurd hz (Nat.succ_ne_zero _)))))
  refine loopW tabOk (E := [(110, s_nvSp)]) ⟨ok_areSpans1, trivial⟩ [] (σ := Nat) (fun i => [(0, .sl 0 s n x), (1, .fn 110 []), (7, .int .i64 n), (8, .int .i64 i)]) (fun i => [.arr (.prod (.prod (.int .i64) (.int .i64)) (.prod (.int .i64) (.int .i64))) l 4 wr]) (fun i => n - i) (fun i => i ≤ n ∧ ∀ (j : Nat) a, j < i → (seg l s n)[j]? = some a → nspB a = false) 0 ⟨Nat.zero_le _, fun j a hj => by omega⟩ ?_ ?_
  · (repeat' ((try (conv => whnf)); first | (with_reducible first | refine And.intro ?_ ?_ | refine WX.of ?_) | exact zc | ((with_reducible refine VC.mk ?_); exact zw) | (with_reducible first | refine splitT ?_ | refine splitF ?_) | ((with_reducible refine splitM.mk (fun hsm => ?_) (fun hsm => ?_)) <;> (try exact zx)) | ((with_reducible refine splitB.mk (fun h => ?_) (fun h => ?_)) <;> (try simp only [zs, ne_eq] at h) <;> (try simp (disch := omega) only [w64] at h) <;> (try exact zx)) | (with_reducible intro hz; (try exact absurd hz (Nat.succ_ne_zero _)))))
  · intro i ⟨hi, hp⟩
    by_cases hlt : i < n
    · obtain ⟨a, ha⟩ := get_some (l := seg l s n) (i := i) (by omega)
      (repeat' ((try (conv => whnf)); first | (with_reducible first | refine And.intro ?_ ?_ | refine WX.of ?_) | exact zc | ((with_reducible refine VC.mk ?_); exact zw) | refine atL_i ha ?_ | (with_reducible first | refine splitT ?_ | refine splitF ?_) | ((with_reducible refine splitM.mk (fun hsm => ?_) (fun hsm => ?_)) <;> (try exact zx)) | ((with_reducible refine splitB.mk (fun h => ?_) (fun h => ?_)) <;> (try simp only [zs, ne_eq] at h) <;> (try simp (disch := omega) only [w64] at h) <;> (try exact zx)) | (with_reducible intro hz; (try exact absurd hz (Nat.succ_ne_zero _)))))
      · exact ⟨by rw [findI_some ha (by simpa [nspB, spB] using h) hp]⟩
      · refine ⟨i + 1, by omega, ⟨hlt, upto_step ha (by simpa [nspB, spB] using h) hp⟩, ?_⟩
        (repeat' ((try (conv => whnf)); first | (with_reducible first | refine And.intro ?_ ?_ | refine WX.of ?_) | exact zc | ((with_reducible refine VC.mk ?_); exact zw) | (with_reducible first | refine splitT ?_ | refine splitF ?_) | ((with_reducible refine splitM.mk (fun hsm => ?_) (fun hsm => ?_)) <;> (try exact zx)) | ((with_reducible refine splitB.mk (fun h => ?_) (fun h => ?_)) <;> (try simp only [zs, ne_eq] at h) <;> (try simp (disch := omega) only [w64] at h) <;> (try exact zx)) | (with_reducible intro hz; (try exact absurd hz (Nat.succ_ne_zero _)))))
    · (repeat' ((try (conv => whnf)); first | (with_reducible first | refine And.intro ?_ ?_ | refine WX.of ?_) | exact zc | ((with_reducible refine VC.mk ?_); exact zw) | (with_reducible first | refine splitT ?_ | refine splitF ?_) | ((with_reducible refine splitM.mk (fun hsm => ?_) (fun hsm => ?_)) <;> (try exact zx)) | ((with_reducible refine splitB.mk (fun h => ?_) (fun h => ?_)) <;> (try simp only [zs, ne_eq] at h) <;> (try simp (disch := omega) only [w64] at h) <;> (try exact zx)) | (with_reducible intro hz; (try exact absurd hz (Nat.succ_ne_zero _)))))
      exact ⟨by rw [findI_none fun j a hj => hp j a (by have := (List.getElem?_eq_some_iff.1 hj).1; omega) hj]⟩
def s_anySp (g : Nat) : Spec := fun args S => match args, S with
  | [.sl 0 s n x, .fn g' []], [.arr (.prod (.prod (.int .i64) (.int .i64)) (.prod (.int .i64) (.int .i64))) l 4 wr] => ⟨g' = g ∧ s + n ≤ l.length ∧ n ≤ 4611686018427387904, .bool ((seg l s n).any nspB), [.arr (.prod (.prod (.int .i64) (.int .i64)) (.prod (.int .i64) (.int .i64))) l 4 wr]⟩
  | _, _ => noSpec
theorem ok_anySp : SpecOk Tryz.prog 109 (s_anySp 110) := by
  intro args S h; unfold s_anySp at h ⊢; (split at h <;> first | exact False.elim h | skip)
  dsimp only at h ⊢
  rename_i s n x g l wr
  obtain ⟨rfl, h1, h2⟩ := h
  refine funW tabOk (E := [(150, (s_idxSp 110))]) ⟨ok_idxSp, trivial⟩ [] (k := 1) (fn := Tryz.f109) rfl rfl rfl rfl rfl rfl ?_
  (repeat' ((try (conv => whnf)); first | (with_reducible first | refine And.intro ?_ ?_ | refine WX.of ?_) | exact zc | ((with_reducible refine VC.mk ?_); exact zw) | (with_reducible first | refine splitT ?_ | refine splitF ?_) | ((with_reducible refine splitM.mk (fun hsm => ?_) (fun hsm => ?_)) <;> (try exact zx)) | ((with_reducible refine splitB.mk (fun h => ?_) (fun h => ?_)) <;> (try simp only [zs, ne_eq] at h) <;> (try simp (disch := omega) only [w64] at h) <;> (try exact zx)) | (with_reducible intro hz; (try exact absurd hz (Nat.succ_ne_zero _)))))
  exact ⟨by rw [findI_any]⟩
def s_areSp : Spec := fun args S => match args, S with
  | [.sl 0 s n x], [.arr (.prod (.prod (.int .i64) (.int .i64)) (.prod (.int .i64) (.int .i64))) l 4 wr] => ⟨s + n ≤ l.length ∧ n ≤ 4611686018427387904, .bool ((seg l s n).all spB), [.arr (.prod (.prod (.int .i64) (.int .i64)) (.prod (.int .i64) (.int .i64))) l 4 wr]⟩
  | _, _ => noSpec
theorem ok_areSpans : SpecOk Tryz.prog 43 s_areSp := by
  intro args S h; unfold s_areSp at h ⊢; (split at h <;> first | exact False.elim h | skip)
  dsimp only at h ⊢
  refine funW tabOk (E := [(109, (s_anySp 110))]) ⟨ok_anySp, trivial⟩ [] (k := 1) (fn := Tryz.f43) rfl rfl rfl rfl rfl rfl ?_
  (repeat' ((try (conv => whnf)); first | (with_reducible first | refine And.intro ?_ ?_ | refine WX.of ?_) | exact zc | ((with_reducible refine VC.mk ?_); exact zw) | (with_reducible first | refine splitT ?_ | refine splitF ?_) | ((with_reducible refine splitM.mk (fun hsm => ?_) (fun hsm => ?_)) <;> (try exact zx)) | ((with_reducible refine splitB.mk (fun h => ?_) (fun h => ?_)) <;> (try simp only [zs, ne_eq] at h) <;> (try simp (disch := omega) only [w64] at h) <;> (try exact zx)) | (with_reducible intro hz; (try exact absurd hz (Nat.succ_ne_zero _)))))
  all_goals (refine ⟨?_⟩; rw [List.all_eq_not_any_not]; rfl)
theorem spB_f {s : SpT} (h : spB s = true) : fOk s.1.1 s.1.2 = true ∧ fOk s.2.1 s.2.2 = true ∧ s.1.1 * s.2.2 ≤ s.2.1 * s.1.2 := by
  unfold spB at h; rw [spOk_iff] at h; exact h
end Go.Proofs.YtonnkpclllmkoaaGreat.Eng
set_option linter.unusedVariables false
set_option linter.unusedSimpArgs false
namespace Go.Proofs.YtonnkpclllmkoaaGreat.Eng
open Go Go.RowKit
set_option maxRecDepth 100000
abbrev ThT : Type := List UInt8 × (Int × Int) × (Int × Int)
def s_toThing : Spec := fun args S => match args, S with
  | [.agg [.str nm, .int .i64 p, .int .i64 q, .int .i64 r, .int .i64 s]], [] => ⟨True, .agg [.str nm, .int .i64 p, .int .i64 q, .int .i64 r, .int .i64 s], []⟩
  | _, _ => noSpec
theorem ok_toThing : SpecOk Tryz.prog 133 s_toThing := by
  intro args S h; unfold s_toThing at h ⊢; (split at h <;> first | exact False.elim h | skip)
  dsimp only at h ⊢
  refine funW tabOk (E := [(77, s_toFrac)]) ⟨ok_toFrac, trivial⟩ [] (k := 0) (fn := Tryz.f133) rfl rfl rfl rfl rfl rfl ?_
  (repeat' ((try (conv => whnf)); first | (with_reducible first | refine And.intro ?_ ?_ | refine WX.of ?_) | exact zc | ((with_reducible refine VC.mk ?_); exact zw) | (with_reducible first | refine splitT ?_ | refine splitF ?_) | ((with_reducible refine splitM.mk (fun hsm => ?_) (fun hsm => ?_)) <;> (try exact zx)) | ((with_reducible refine splitB.mk (fun h => ?_) (fun h => ?_)) <;> (try simp only [zs, ne_eq] at h) <;> (try simp (disch := omega) only [w64] at h) <;> (try exact zx)) | (with_reducible intro hz; (try exact absurd hz (Nat.succ_ne_zero _)))))
def s_eqThing : Spec := fun args S => match args, S with
  | [.agg [.str nm, .int .i64 p, .int .i64 q, .int .i64 r, .int .i64 s], .agg [.str nm', .int .i64 p', .int .i64 q', .int .i64 r', .int .i64 s']], [] => ⟨True, .bool (decide (nm = nm') && (decide (p = p') && decide (q = q')) && (decide (r = r') && decide (s = s'))), []⟩
  | _, _ => noSpec
theorem ok_eqThing : SpecOk Tryz.prog 141 s_eqThing := by
  intro args S h; unfold s_eqThing at h ⊢; (split at h <;> first | exact False.elim h | skip)
  dsimp only at h ⊢
  refine funW tabOk (E := [(85, s_eqFrac)]) ⟨ok_eqFrac, trivial⟩ [] (k := 0) (fn := Tryz.f141) rfl rfl rfl rfl rfl rfl ?_
  (repeat' ((try (conv => whnf)); first | (with_reducible first | refine And.intro ?_ ?_ | refine WX.of ?_) | exact zc | ((with_reducible refine VC.mk ?_); exact zw) | (with_reducible first | refine splitT ?_ | refine splitF ?_) | ((with_reducible refine splitM.mk (fun hsm => ?_) (fun hsm => ?_)) <;> (try exact zx)) | ((with_reducible refine splitB.mk (fun h => ?_) (fun h => ?_)) <;> (try simp only [zs, ne_eq] at h) <;> (try simp (disch := omega) only [w64] at h) <;> (try exact zx)) | (with_reducible intro hz; (try exact absurd hz (Nat.succ_ne_zero _)))))
  all_goals (refine ⟨?_⟩; simp_all)
def s_toThingS : Spec := fun args S => match args, S with
  | [.opt c 0 n 0], [.arrO (.prod .str (.prod (.prod (.int .i64) (.int .i64)) (.prod (.int .i64) (.int .i64)))) l 5] => ⟨n ≤ l.length ∧ (c = true → l = []) ∧ n ≤ 1048576, .sl 1 0 n 0, [.arrO (.prod .str (.prod (.prod (.int .i64) (.int .i64)) (.prod (.int .i64) (.int .i64)))) l 5, .arr (.prod .str (.prod (.prod (.int .i64) (.int .i64)) (.prod (.int .i64) (.int .i64)))) (seg l 0 n) 5 true]⟩
  | [.sl 0 s n x], [.arr (.prod .str (.prod (.prod (.int .i64) (.int .i64)) (.prod (.int .i64) (.int .i64)))) l 5 wr] => ⟨s + n ≤ l.length ∧ n ≤ 1048576, .sl 1 0 n 0, [.arr (.prod .str (.prod (.prod (.int .i64) (.int .i64)) (.prod (.int .i64) (.int .i64)))) l 5 wr, .arr (.prod .str (.prod (.prod (.int .i64) (.int .i64)) (.prod (.int .i64) (.int .i64)))) (seg l s n) 5 true]⟩
  | _, _ => noSpec
theorem toThingS_sl {s n x : Nat} {l : List (ET.T (.prod .str (.prod (.prod (.int .i64) (.int .i64)) (.prod (.int .i64) (.int .i64)))))} {wr : Bool} (h : s + n ≤ l.length ∧ n ≤ 1048576) : RunsS Tryz.prog 78 [.sl 0 s n x] [.arr (.prod .str (.prod (.prod (.int .i64) (.int .i64)) (.prod (.int .i64) (.int .i64)))) l 5 wr] (.sl 1 0 n 0) [.arr (.prod .str (.prod (.prod (.int .i64) (.int .i64)) (.prod (.int .i64) (.int .i64)))) l 5 wr, .arr (.prod .str (.prod (.prod (.int .i64) (.int .i64)) (.prod (.int .i64) (.int .i64)))) (seg l s n) 5 true] := by
  have hL := seg_len h.1
  refine funW tabOk (E := [(133, s_toThing)]) ⟨ok_toThing, trivial⟩ [] (k := 1) (fn := Tryz.f78) rfl rfl rfl rfl rfl rfl ?_
  (repeat' ((try (conv => whnf)); first | (with_reducible first | refine And.intro ?_ ?_ | refine WX.of ?_) | exact zc | ((with_reducible refine VC.mk ?_); exact zw) | ((with_reducible refine VC.mk ?_); (refine ⟨?_, rfl, ?_, ?_⟩); (omega); (refine Int.le_trans (Int.mul_le_mul_of_nonneg_right (b := 100000) ?_ ?_) ?_; (decide); (omega); (omega)); (omega)) | (with_reducible first | refine splitT ?_ | refine splitF ?_) | ((with_reducible refine splitM.mk (fun hsm => ?_) (fun hsm => ?_)) <;> (try exact zx)) | ((with_reducible refine splitB.mk (fun h => ?_) (fun h => ?_)) <;> (try simp only [zs, ne_eq] at h) <;> (try simp (disch := omega) only [w64] at h) <;> (try exact zx)) | (with_reducible intro hz; (try exact absurd hz (Nat.succ_ne_zero _)))))
  refine loopW tabOk (E := [(133, s_toThing)]) ⟨ok_toThing, trivial⟩ [] (σ := Nat) (fun i => [(0, .sl 0 s n x), (3, .sl 1 0 n 0), (4, .int .i64 i)]) (fun i => [.arr (.prod .str (.prod (.prod (.int .i64) (.int .i64)) (.prod (.int .i64) (.int .i64)))) l 5 wr, .arr (.prod .str (.prod (.prod (.int .i64) (.int .i64)) (.prod (.int .i64) (.int .i64)))) ((seg l s n).take i ++ List.replicate (n - i) ((([], (0, 0), 0, 0) : List UInt8 × (Int × Int) × (Int × Int)) : ET.T (.prod .str (.prod (.prod (.int .i64) (.int .i64)) (.prod (.int .i64) (.int .i64)))))) 5 true]) (fun i => n - i) (fun i => i ≤ n) 0 (Nat.zero_le _) ?_ ?_
  · (repeat' ((try (conv => whnf)); first | (with_reducible first | refine And.intro ?_ ?_ | refine WX.of ?_) | exact zc | ((with_reducible refine VC.mk ?_); exact zw) | (with_reducible first | refine splitT ?_ | refine splitF ?_) | ((with_reducible refine splitM.mk (fun hsm => ?_) (fun hsm => ?_)) <;> (try exact zx)) | ((with_reducible refine splitB.mk (fun h => ?_) (fun h => ?_)) <;> (try simp only [zs, ne_eq] at h) <;> (try simp (disch := omega) only [w64] at h) <;> (try exact zx)) | (with_reducible intro hz; (try exact absurd hz (Nat.succ_ne_zero _)))))
    all_goals exact ⟨by simp⟩
  · intro i hi
    by_cases hlt : i < n
    · obtain ⟨⟨nm, ⟨p, q⟩, r, s⟩, ha⟩ := get_some (l := seg l s n) (i := i) (by omega)
      (repeat' ((try (conv => whnf)); first | (with_reducible first | refine And.intro ?_ ?_ | refine WX.of ?_) | exact zc | ((with_reducible refine VC.mk ?_); exact zw) | refine atL_i ha ?_ | refine atL_0 (fill_at hL hlt) ?_ | (with_reducible first | refine splitT ?_ | refine splitF ?_) | ((with_reducible refine splitM.mk (fun hsm => ?_) (fun hsm => ?_)) <;> (try exact zx)) | ((with_reducible refine splitB.mk (fun h => ?_) (fun h => ?_)) <;> (try simp only [zs, ne_eq] at h) <;> (try simp (disch := omega) only [w64] at h) <;> (try exact zx)) | (with_reducible intro hz; (try exact absurd hz (Nat.succ_ne_zero _)))))
      refine ⟨i + 1, by omega, hlt, ?_⟩
      (repeat' ((try (conv => whnf)); first | (with_reducible first | refine And.intro ?_ ?_ | refine WX.of ?_) | exact zc | ((with_reducible refine VC.mk ?_); exact zw) | (with_reducible first | refine splitT ?_ | refine splitF ?_) | ((with_reducible refine splitM.mk (fun hsm => ?_) (fun hsm => ?_)) <;> (try exact zx)) | ((with_reducible refine splitB.mk (fun h => ?_) (fun h => ?_)) <;> (try simp only [zs, ne_eq] at h) <;> (try simp (disch := omega) only [w64] at h) <;> (try exact zx)) | (with_reducible intro hz; (try exact absurd hz (Nat.succ_ne_zero _)))))
      exact ⟨by simp [fill_step hL ha]⟩
    · (repeat' ((try (conv => whnf)); first | (with_reducible first | refine And.intro ?_ ?_ | refine WX.of ?_) | exact zc | ((with_reducible refine VC.mk ?_); exact zw) | (with_reducible first | refine splitT ?_ | refine splitF ?_) | ((with_reducible refine splitM.mk (fun hsm => ?_) (fun hsm => ?_)) <;> (try exact zx)) | ((with_reducible refine splitB.mk (fun h => ?_) (fun h => ?_)) <;> (try simp only [zs, ne_eq] at h) <;> (try simp (disch := omega) only [w64] at h) <;> (try exact zx)) | (with_reducible intro hz; (try exact absurd hz (Nat.succ_ne_zero _)))))
      obtain rfl : i = n := by omega
      exact ⟨by rw [fill_end hL]⟩
theorem toThingS_none {v : SV} (hv : v = .nils ∨ v = .sl 0 0 0 0) : RunsS Tryz.prog 78 [v] [.gone] (.sl 1 0 0 0) [.gone, .arr (.prod .str (.prod (.prod (.int .i64) (.int .i64)) (.prod (.int .i64) (.int .i64)))) [] 5 true] := by
  rcases hv with rfl | rfl
  all_goals
    refine funW tabOk (E := [(133, s_toThing)]) ⟨ok_toThing, trivial⟩ [] (k := 1) (fn := Tryz.f78) rfl rfl rfl rfl rfl rfl ?_
    (repeat' ((try (conv => whnf)); first | (with_reducible first | refine And.intro ?_ ?_ | refine WX.of ?_) | exact zc | ((with_reducible refine VC.mk ?_); exact zw) | (with_reducible first | refine splitT ?_ | refine splitF ?_) | ((with_reducible refine splitM.mk (fun hsm => ?_) (fun hsm => ?_)) <;> (try exact zx)) | ((with_reducible refine splitB.mk (fun h => ?_) (fun h => ?_)) <;> (try simp only [zs, ne_eq] at h) <;> (try simp (disch := omega) only [w64] at h) <;> (try exact zx)) | (with_reducible intro hz; (try exact absurd hz (Nat.succ_ne_zero _)))))
    refine loop1 tabOk (E := [(133, s_toThing)]) ⟨ok_toThing, trivial⟩ [] ?_
    (repeat' ((try (conv => whnf)); first | (with_reducible first | refine And.intro ?_ ?_ | refine WX.of ?_) | exact zc | ((with_reducible refine VC.mk ?_); exact zw) | (with_reducible first | refine splitT ?_ | refine splitF ?_) | ((with_reducible refine splitM.mk (fun hsm => ?_) (fun hsm => ?_)) <;> (try exact zx)) | ((with_reducible refine splitB.mk (fun h => ?_) (fun h => ?_)) <;> (try simp only [zs, ne_eq] at h) <;> (try simp (disch := omega) only [w64] at h) <;> (try exact zx)) | (with_reducible intro hz; (try exact absurd hz (Nat.succ_ne_zero _)))))
theorem ok_toThingS : SpecOk Tryz.prog 78 s_toThingS := by
  intro args S h; unfold s_toThingS at h ⊢; (split at h <;> first | exact False.elim h | skip)
  dsimp only at h ⊢
  · exact RunsS.opt (pre := []) (post := []) rfl rfl h.1 (fun hn _ hl => by subst hn; subst hl; exact toThingS_none (.inl rfl)) (fun hn _ hl => by subst hn; subst hl; exact toThingS_none (.inr rfl)) (toThingS_sl ⟨by simpa using h.1, h.2.2⟩) h.2.1
  · exact toThingS_sl h
def s_eqThingS : Spec := fun args S => match args, S with
  | [.sl 0 s n x, .sl 1 s' n' x'], [.arr (.prod .str (.prod (.prod (.int .i64) (.int .i64)) (.prod (.int .i64) (.int .i64)))) l 5 wr, .arr (.prod .str (.prod (.prod (.int .i64) (.int .i64)) (.prod (.int .i64) (.int .i64)))) l' 5 wr'] => ⟨s + n ≤ l.length ∧ s' + n' ≤ l'.length ∧ n ≤ 4611686018427387904, .bool (decide (seg l s n = seg l' s' n')), [.arr (.prod .str (.prod (.prod (.int .i64) (.int .i64)) (.prod (.int .i64) (.int .i64)))) l 5 wr, .arr (.prod .str (.prod (.prod (.int .i64) (.int .i64)) (.prod (.int .i64) (.int .i64)))) l' 5 wr']⟩
  | [.nils, .sl 0 s' n' x'], [.arr (.prod .str (.prod (.prod (.int .i64) (.int .i64)) (.prod (.int .i64) (.int .i64)))) l' 5 wr'] => ⟨s' + n' ≤ l'.length ∧ n' = 0, .bool true, [.arr (.prod .str (.prod (.prod (.int .i64) (.int .i64)) (.prod (.int .i64) (.int .i64)))) l' 5 wr']⟩
  | _, _ => noSpec
theorem eqThingS_nil {s x : Nat} {l : List (ET.T (.prod .str (.prod (.prod (.int .i64) (.int .i64)) (.prod (.int .i64) (.int .i64)))))} {wr : Bool} : RunsS Tryz.prog 88 [.nils, .sl 0 s 0 x] [.arr (.prod .str (.prod (.prod (.int .i64) (.int .i64)) (.prod (.int .i64) (.int .i64)))) l 5 wr] (.bool true) [.arr (.prod .str (.prod (.prod (.int .i64) (.int .i64)) (.prod (.int .i64) (.int .i64)))) l 5 wr] := by
  refine funW tabOk (E := [(141, s_eqThing)]) ⟨ok_eqThing, trivial⟩ [] (k := 1) (fn := Tryz.f88) rfl rfl rfl rfl rfl rfl ?_
  (repeat' ((try (conv => whnf)); first | (with_reducible first | refine And.intro ?_ ?_ | refine WX.of ?_) | exact zc | ((with_reducible refine VC.mk ?_); exact zw) | (with_reducible first | refine splitT ?_ | refine splitF ?_) | ((with_reducible refine splitM.mk (fun hsm => ?_) (fun hsm => ?_)) <;> (try exact zx)) | ((with_reducible refine splitB.mk (fun h => ?_) (fun h => ?_)) <;> (try simp only [zs, ne_eq] at h) <;> (try simp (disch := omega) only [w64] at h) <;> (try exact zx)) | (with_reducible intro hz; (try exact absurd hz (Nat.succ_ne_zero _)))))
  refine loop1 tabOk (E := [(141, s_eqThing)]) ⟨ok_eqThing, trivial⟩ [] ?_
  (repeat' ((try (conv => whnf)); first | (with_reducible first | refine And.intro ?_ ?_ | refine WX.of ?_) | exact zc | ((with_reducible refine VC.mk ?_); exact zw) | (with_reducible first | refine splitT ?_ | refine splitF ?_) | ((with_reducible refine splitM.mk (fun hsm => ?_) (fun hsm => ?_)) <;> (try exact zx)) | ((with_reducible refine splitB.mk (fun h => ?_) (fun h => ?_)) <;> (try simp only [zs, ne_eq] at h) <;> (try simp (disch := omega) only [w64] at h) <;> (try exact zx)) | (with_reducible intro hz; (try exact absurd hz (Nat.succ_ne_zero _)))))
theorem ok_eqThingS : SpecOk Tryz.prog 88 s_eqThingS := by
  intro args S h; unfold s_eqThingS at h ⊢; (split at h <;> first | exact False.elim h | skip)
  dsimp only at h ⊢
  rotate_left 1
  · obtain ⟨h1, rfl⟩ := h
    exact eqThingS_nil
  rename_i s n x s' n' x' l wr l' wr'
  have hL := seg_len h.1
  have hM := seg_len h.2.1
  refine funW tabOk (E := [(141, s_eqThing)]) ⟨ok_eqThing, trivial⟩ [] (k := 2) (fn := Tryz.f88) rfl rfl rfl rfl rfl rfl ?_
  (repeat' ((try (conv => whnf)); first | (with_reducible first | refine And.intro ?_ ?_ | refine WX.of ?_) | exact zc | ((with_reducible refine VC.mk ?_); exact zw) | (with_reducible first | refine splitT ?_ | refine splitF ?_) | ((with_reducible refine splitM.mk (fun hsm => ?_) (fun hsm => ?_)) <;> (try exact zx)) | ((with_reducible refine splitB.mk (fun h => ?_) (fun h => ?_)) <;> (try simp only [zs, ne_eq] at h) <;> (try simp (disch := omega) only [w64] at h) <;> (try exact zx)) | (with_reducible intro hz; (try exact absurd hz (Nat.succ_ne_zero _)))))
  · refine ⟨?_⟩
    rw [decide_eq_false]; intro e
    rw [e] at hL; omega
  · obtain rfl : n = n' := by omega
    refine loopW tabOk (E := [(141, s_eqThing)]) ⟨ok_eqThing, trivial⟩ [] (σ := Nat) (fun i => [(0, .sl 0 s n x), (1, .sl 1 s' n x'), (5, .int .i64 i)]) (fun i => [.arr (.prod .str (.prod (.prod (.int .i64) (.int .i64)) (.prod (.int .i64) (.int .i64)))) l 5 wr, .arr (.prod .str (.prod (.prod (.int .i64) (.int .i64)) (.prod (.int .i64) (.int .i64)))) l' 5 wr']) (fun i => n - i) (fun i => i ≤ n ∧ (seg l s n).take i = (seg l' s' n).take i) 0 ⟨Nat.zero_le _, by simp⟩ ?_ ?_
    · (repeat' ((try (conv => whnf)); first | (with_reducible first | refine And.intro ?_ ?_ | refine WX.of ?_) | exact zc | ((with_reducible refine VC.mk ?_); exact zw) | (with_reducible first | refine splitT ?_ | refine splitF ?_) | ((with_reducible refine splitM.mk (fun hsm => ?_) (fun hsm => ?_)) <;> (try exact zx)) | ((with_reducible refine splitB.mk (fun h => ?_) (fun h => ?_)) <;> (try simp only [zs, ne_eq] at h) <;> (try simp (disch := omega) only [w64] at h) <;> (try exact zx)) | (with_reducible intro hz; (try exact absurd hz (Nat.succ_ne_zero _)))))
    · intro i ⟨hi, hp⟩
      by_cases hlt : i < n
      · obtain ⟨⟨nm, ⟨p, q⟩, r, s0⟩, ha⟩ := get_some (l := seg l s n) (i := i) (by omega)
        obtain ⟨⟨nm', ⟨p', q'⟩, r', s0'⟩, hb⟩ := get_some (l := seg l' s' n) (i := i) (by omega)
        (repeat' ((try (conv => whnf)); first | (with_reducible first | refine And.intro ?_ ?_ | refine WX.of ?_) | exact zc | ((with_reducible refine VC.mk ?_); exact zw) | refine atL_i ha ?_ | refine atL_i hb ?_ | (with_reducible first | refine splitT ?_ | refine splitF ?_) | ((with_reducible refine splitM.mk (fun hsm => ?_) (fun hsm => ?_)) <;> (try exact zx)) | ((with_reducible refine splitB.mk (fun h => ?_) (fun h => ?_)) <;> (try simp only [zs, ne_eq] at h) <;> (try simp (disch := omega) only [w64] at h) <;> (try exact zx)) | (with_reducible intro hz; (try exact absurd hz (Nat.succ_ne_zero _)))))
        · refine ⟨?_⟩; rw [decide_eq_false]; exact same_not ha hb (by simp at h ⊢; simp_all)
        · refine ⟨i + 1, by omega, ⟨hlt, same_step ha hb hp (by simp at h ⊢; simp_all)⟩, ?_⟩
          (repeat' ((try (conv => whnf)); first | (with_reducible first | refine And.intro ?_ ?_ | refine WX.of ?_) | exact zc | ((with_reducible refine VC.mk ?_); exact zw) | (with_reducible first | refine splitT ?_ | refine splitF ?_) | ((with_reducible refine splitM.mk (fun hsm => ?_) (fun hsm => ?_)) <;> (try exact zx)) | ((with_reducible refine splitB.mk (fun h => ?_) (fun h => ?_)) <;> (try simp only [zs, ne_eq] at h) <;> (try simp (disch := omega) only [w64] at h) <;> (try exact zx)) | (with_reducible intro hz; (try exact absurd hz (Nat.succ_ne_zero _)))))
      · (repeat' ((try (conv => whnf)); first | (with_reducible first | refine And.intro ?_ ?_ | refine WX.of ?_) | exact zc | ((with_reducible refine VC.mk ?_); exact zw) | (with_reducible first | refine splitT ?_ | refine splitF ?_) | ((with_reducible refine splitM.mk (fun hsm => ?_) (fun hsm => ?_)) <;> (try exact zx)) | ((with_reducible refine splitB.mk (fun h => ?_) (fun h => ?_)) <;> (try simp only [zs, ne_eq] at h) <;> (try simp (disch := omega) only [w64] at h) <;> (try exact zx)) | (with_reducible intro hz; (try exact absurd hz (Nat.succ_ne_zero _)))))
        obtain rfl : i = n := by omega
        refine ⟨?_⟩; rw [decide_eq_true]; exact same_end hL hM hp
def s_toVernier : Spec := fun args S => match args, S with
  | [.agg [.int .i64 p, .bool b]], [] => ⟨True, .agg [.int .i64 p, .bool b], []⟩
  | _, _ => noSpec
theorem ok_toVernier : SpecOk Tryz.prog 76 s_toVernier := by
  intro args S h; unfold s_toVernier at h ⊢; (split at h <;> first | exact False.elim h | skip)
  dsimp only at h ⊢
  refine funW tabOk (E := []) trivial [] (k := 0) (fn := Tryz.f76) rfl rfl rfl rfl rfl rfl ?_
  (repeat' ((try (conv => whnf)); first | (with_reducible first | refine And.intro ?_ ?_ | refine WX.of ?_) | exact zc | ((with_reducible refine VC.mk ?_); exact zw) | (with_reducible first | refine splitT ?_ | refine splitF ?_) | ((with_reducible refine splitM.mk (fun hsm => ?_) (fun hsm => ?_)) <;> (try exact zx)) | ((with_reducible refine splitB.mk (fun h => ?_) (fun h => ?_)) <;> (try simp only [zs, ne_eq] at h) <;> (try simp (disch := omega) only [w64] at h) <;> (try exact zx)) | (with_reducible intro hz; (try exact absurd hz (Nat.succ_ne_zero _)))))
def s_eqVernier : Spec := fun args S => match args, S with
  | [.agg [.int .i64 p, .bool b], .agg [.int .i64 p', .bool b']], [] => ⟨True, .bool (decide (p = p') && decide (b = b')), []⟩
  | _, _ => noSpec
theorem ok_eqVernier : SpecOk Tryz.prog 87 s_eqVernier := by
  intro args S h; unfold s_eqVernier at h ⊢; (split at h <;> first | exact False.elim h | skip)
  dsimp only at h ⊢
  refine funW tabOk (E := []) trivial [] (k := 0) (fn := Tryz.f87) rfl rfl rfl rfl rfl rfl ?_
  (repeat' ((try (conv => whnf)); first | (with_reducible first | refine And.intro ?_ ?_ | refine WX.of ?_) | exact zc | ((with_reducible refine VC.mk ?_); exact zw) | (with_reducible first | refine splitT ?_ | refine splitF ?_) | ((with_reducible refine splitM.mk (fun hsm => ?_) (fun hsm => ?_)) <;> (try exact zx)) | ((with_reducible refine splitB.mk (fun h => ?_) (fun h => ?_)) <;> (try simp only [zs, ne_eq] at h) <;> (try simp (disch := omega) only [w64] at h) <;> (try exact zx)) | (with_reducible intro hz; (try exact absurd hz (Nat.succ_ne_zero _)))))
  all_goals (refine ⟨?_⟩; simp_all)
def s_szThing : Spec := fun args S => match args, S with
  | [.agg [.str nm, .int .i64 p, .int .i64 q, .int .i64 r, .int .i64 s], .int .i64 k], [] => ⟨(0 ≤ k ∧ k ≤ 1048576) ∧ nm.length ≤ 9223372036854775807, .int .i64 (max (-1) (k - nm.length)), []⟩
  | _, _ => noSpec
theorem ok_szThing : SpecOk Tryz.prog 123 s_szThing := by
  intro args S h; unfold s_szThing at h ⊢; (split at h <;> first | exact False.elim h | skip)
  dsimp only at h ⊢
  refine funW tabOk (E := []) trivial [] (k := 0) (fn := Tryz.f123) rfl rfl rfl rfl rfl rfl ?_
  (repeat' ((try (conv => whnf)); first | (with_reducible first | refine And.intro ?_ ?_ | refine WX.of ?_) | exact zc | ((with_reducible refine VC.mk ?_); exact zw) | (with_reducible first | refine splitT ?_ | refine splitF ?_) | ((with_reducible refine splitM.mk (fun hsm => ?_) (fun hsm => ?_)) <;> (try exact zx)) | ((with_reducible refine splitB.mk (fun h => ?_) (fun h => ?_)) <;> (try simp only [zs, ne_eq] at h) <;> (try simp (disch := omega) only [w64] at h) <;> (try exact zx)) | (with_reducible intro hz; (try exact absurd hz (Nat.succ_ne_zero _)))))
  all_goals (refine ⟨?_⟩; (try rw [w64 (by omega)]); congr 1; omega)
def s_szThingS : Spec := fun args S => match args, S with
  | [.opt c 0 n 0, .int .i64 k], [.arrO (.prod .str (.prod (.prod (.int .i64) (.int .i64)) (.prod (.int .i64) (.int .i64)))) l 5] => ⟨(0 ≤ k ∧ k ≤ 1048576) ∧ (n ≤ l.length ∧ (c = true → l = [])) ∧ n ≤ 9223372036854775807 ∧ (∀ (j : Nat) a, l[j]? = some a → a.1.length ≤ 9223372036854775807), .int .i64 (max (-1) (k - n - tot (fun a : ThT => a.1.length) (seg l 0 n))), [.arrO (.prod .str (.prod (.prod (.int .i64) (.int .i64)) (.prod (.int .i64) (.int .i64)))) l 5]⟩
  | _, _ => noSpec
theorem szThingS_none {v : SV} (hv : v = .nils ∨ v = .sl 0 0 0 0) {k : Int} (hk : 0 ≤ k ∧ k ≤ 1048576) : RunsS Tryz.prog 68 [v, .int .i64 k] [.gone] (.int .i64 k) [.gone] := by
  rcases hv with rfl | rfl
  all_goals
    refine funW tabOk (E := [(123, s_szThing)]) ⟨ok_szThing, trivial⟩ [] (k := 1) (fn := Tryz.f68) rfl rfl rfl rfl rfl rfl ?_
    (repeat' ((try (conv => whnf)); first | (with_reducible first | refine And.intro ?_ ?_ | refine WX.of ?_) | exact zc | ((with_reducible refine VC.mk ?_); exact zw) | (with_reducible first | refine splitT ?_ | refine splitF ?_) | ((with_reducible refine splitM.mk (fun hsm => ?_) (fun hsm => ?_)) <;> (try exact zx)) | ((with_reducible refine splitB.mk (fun h => ?_) (fun h => ?_)) <;> (try simp only [zs, ne_eq] at h) <;> (try simp (disch := omega) only [w64] at h) <;> (try exact zx)) | (with_reducible intro hz; (try exact absurd hz (Nat.succ_ne_zero _)))))
    refine loop1 tabOk (E := [(123, s_szThing)]) ⟨ok_szThing, trivial⟩ [] ?_
    (repeat' ((try (conv => whnf)); first | (with_reducible first | refine And.intro ?_ ?_ | refine WX.of ?_) | exact zc | ((with_reducible refine VC.mk ?_); exact zw) | (with_reducible first | refine splitT ?_ | refine splitF ?_) | ((with_reducible refine splitM.mk (fun hsm => ?_) (fun hsm => ?_)) <;> (try exact zx)) | ((with_reducible refine splitB.mk (fun h => ?_) (fun h => ?_)) <;> (try simp only [zs, ne_eq] at h) <;> (try simp (disch := omega) only [w64] at h) <;> (try exact zx)) | (with_reducible intro hz; (try exact absurd hz (Nat.succ_ne_zero _)))))
theorem szThingS_sl {s n x : Nat} {l : List ThT} {wr : Bool} {k : Int} (h1 : s + n ≤ l.length) (hk : 0 ≤ k ∧ k ≤ 1048576) (hn : n ≤ 9223372036854775807) (ho : ∀ (j : Nat) a, l[j]? = some a → a.1.length ≤ 9223372036854775807) : RunsS Tryz.prog 68 [.sl 0 s n x, .int .i64 k] [.arr (.prod .str (.prod (.prod (.int .i64) (.int .i64)) (.prod (.int .i64) (.int .i64)))) l 5 wr] (.int .i64 (max (-1) (k - n - tot (fun a : ThT => a.1.length) (seg l s n)))) [.arr (.prod .str (.prod (.prod (.int .i64) (.int .i64)) (.prod (.int .i64) (.int .i64)))) l 5 wr] := by
  have hL := seg_len h1
  refine funW tabOk (E := [(123, s_szThing)]) ⟨ok_szThing, trivial⟩ [] (k := 1) (fn := Tryz.f68) rfl rfl rfl rfl rfl rfl ?_
  (repeat' ((try (conv => whnf)); first | (with_reducible first | refine And.intro ?_ ?_ | refine WX.of ?_) | exact zc | ((with_reducible refine VC.mk ?_); exact zw) | (with_reducible first | refine splitT ?_ | refine splitF ?_) | ((with_reducible refine splitM.mk (fun hsm => ?_) (fun hsm => ?_)) <;> (try exact zx)) | ((with_reducible refine splitB.mk (fun h => ?_) (fun h => ?_)) <;> (try simp only [zs, ne_eq] at h) <;> (try simp (disch := omega) only [w64] at h) <;> (try exact zx)) | (with_reducible intro hz; (try exact absurd hz (Nat.succ_ne_zero _)))))
  refine loopW tabOk (E := [(123, s_szThing)]) ⟨ok_szThing, trivial⟩ [] (σ := Nat) (fun i => [(0, .sl 0 s n x), (1, .int .i64 (k - n - tot (fun a : ThT => a.1.length) ((seg l s n).take i))), (5, .int .i64 i)]) (fun i => [.arr (.prod .str (.prod (.prod (.int .i64) (.int .i64)) (.prod (.int .i64) (.int .i64)))) l 5 wr]) (fun i => n - i) (fun i => i ≤ n ∧ (tot (fun a : ThT => a.1.length) ((seg l s n).take i) : Int) ≤ k - n) 0 ⟨Nat.zero_le _, by simp [tot]; omega⟩ ?_ ?_
  · (repeat' ((try (conv => whnf)); first | (with_reducible first | refine And.intro ?_ ?_ | refine WX.of ?_) | exact zc | ((with_reducible refine VC.mk ?_); exact zw) | (with_reducible first | refine splitT ?_ | refine splitF ?_) | ((with_reducible refine splitM.mk (fun hsm => ?_) (fun hsm => ?_)) <;> (try exact zx)) | ((with_reducible refine splitB.mk (fun h => ?_) (fun h => ?_)) <;> (try simp only [zs, ne_eq] at h) <;> (try simp (disch := omega) only [w64] at h) <;> (try exact zx)) | (with_reducible intro hz; (try exact absurd hz (Nat.succ_ne_zero _)))))
    all_goals (refine ⟨?_⟩; rw [w64 (by omega)]; simp [tot])
  · intro i ⟨hi, hp⟩
    by_cases hlt : i < n
    · obtain ⟨⟨nm, ⟨p, q⟩, r, s0⟩, ha⟩ := get_some (l := seg l s n) (i := i) (by omega)
      have hno := ho _ _ (seg_get ha).1
      dsimp only at hno
      have hst := tot_step (f := fun a : ThT => a.1.length) ha
      dsimp only at hst
      have hle := tot_le (f := fun a : ThT => a.1.length) (L := seg l s n) (i + 1)
      (repeat' ((try (conv => whnf)); first | (with_reducible first | refine And.intro ?_ ?_ | refine WX.of ?_) | exact zc | ((with_reducible refine VC.mk ?_); exact zw) | refine atL_i ha ?_ | (with_reducible first | refine splitT ?_ | refine splitF ?_) | ((with_reducible refine splitM.mk (fun hsm => ?_) (fun hsm => ?_)) <;> (try exact zx)) | ((with_reducible refine splitB.mk (fun h => ?_) (fun h => ?_)) <;> (try simp only [zs, ne_eq] at h) <;> (try simp (disch := omega) only [w64] at h) <;> (try exact zx)) | (with_reducible intro hz; (try exact absurd hz (Nat.succ_ne_zero _)))))
      refine ⟨i + 1, by omega, ⟨hlt, by omega⟩, ?_⟩
      (repeat' ((try (conv => whnf)); first | (with_reducible first | refine And.intro ?_ ?_ | refine WX.of ?_) | exact zc | ((with_reducible refine VC.mk ?_); exact zw) | (with_reducible first | refine splitT ?_ | refine splitF ?_) | ((with_reducible refine splitM.mk (fun hsm => ?_) (fun hsm => ?_)) <;> (try exact zx)) | ((with_reducible refine splitB.mk (fun h => ?_) (fun h => ?_)) <;> (try simp only [zs, ne_eq] at h) <;> (try simp (disch := omega) only [w64] at h) <;> (try exact zx)) | (with_reducible intro hz; (try exact absurd hz (Nat.succ_ne_zero _)))))
    · obtain rfl : i = n := by omega
      rw [List.take_of_length_le (by omega)] at hp ⊢
      (repeat' ((try (conv => whnf)); first | (with_reducible first | refine And.intro ?_ ?_ | refine WX.of ?_) | exact zc | ((with_reducible refine VC.mk ?_); exact zw) | (with_reducible first | refine splitT ?_ | refine splitF ?_) | ((with_reducible refine splitM.mk (fun hsm => ?_) (fun hsm => ?_)) <;> (try exact zx)) | ((with_reducible refine splitB.mk (fun h => ?_) (fun h => ?_)) <;> (try simp only [zs, ne_eq] at h) <;> (try simp (disch := omega) only [w64] at h) <;> (try exact zx)) | (with_reducible intro hz; (try exact absurd hz (Nat.succ_ne_zero _)))))
theorem ok_szThingS : SpecOk Tryz.prog 68 s_szThingS := by
  intro args S h; unfold s_szThingS at h ⊢; (split at h <;> first | exact False.elim h | skip)
  dsimp only at h ⊢
  rename_i c n k l
  obtain ⟨h1, ⟨h2, h3⟩, h4, h5⟩ := h
  refine RunsS.opt (pre := []) (post := [_]) rfl rfl h2 (fun hn _ hl => ?_) (fun hn _ hl => ?_) (szThingS_sl (by simpa using h2) h1 h4 h5) h3
  · subst hn; subst hl
    simpa [seg, tot, show max (-1) k = k by omega] using szThingS_none (.inl rfl) h1
  · subst hn; subst hl
    simpa [seg, tot, show max (-1) k = k by omega] using szThingS_none (.inr rfl) h1
def s_toScale : Spec := fun args S => match args, S with
  | [.agg [.int .i64 p, .int .i64 q, .opt c 0 n 0]], [.arrO (.prod (.int .i64) (.int .i64)) l 2] => ⟨n ≤ l.length ∧ (c = true → l = []) ∧ n ≤ 1048576, .agg [.int .i64 p, .int .i64 q, .sl 1 0 n 0], [.arrO (.prod (.int .i64) (.int .i64)) l 2, .arr (.prod (.int .i64) (.int .i64)) (seg l 0 n) 2 true]⟩
  | _, _ => noSpec
theorem ok_toScale : SpecOk Tryz.prog 75 s_toScale := by
  intro args S h; unfold s_toScale at h ⊢; (split at h <;> first | exact False.elim h | skip)
  dsimp only at h ⊢
  refine funW tabOk (E := [(77, s_toFrac), (132, s_toFracS)]) ⟨ok_toFrac, ok_toFracS, trivial⟩ [] (k := 1) (fn := Tryz.f75) rfl rfl rfl rfl rfl rfl ?_
  (repeat' ((try (conv => whnf)); first | (with_reducible first | refine And.intro ?_ ?_ | refine WX.of ?_) | exact zc | ((with_reducible refine VC.mk ?_); exact zw) | (with_reducible first | refine splitT ?_ | refine splitF ?_) | ((with_reducible refine splitM.mk (fun hsm => ?_) (fun hsm => ?_)) <;> (try exact zx)) | ((with_reducible refine splitB.mk (fun h => ?_) (fun h => ?_)) <;> (try simp only [zs, ne_eq] at h) <;> (try simp (disch := omega) only [w64] at h) <;> (try exact zx)) | (with_reducible intro hz; (try exact absurd hz (Nat.succ_ne_zero _)))))
def s_szScale : Spec := fun args S => match args, S with
  | [.agg [.int .i64 p, .int .i64 q, .opt c 0 n 0], .int .i64 k], [.arrO (.prod (.int .i64) (.int .i64)) l 2] => ⟨(0 ≤ k ∧ k ≤ 1048576) ∧ n ≤ 9223372036854775807, .int .i64 (max (-1) (k - n)), [.arrO (.prod (.int .i64) (.int .i64)) l 2]⟩
  | _, _ => noSpec
theorem ok_szScale : SpecOk Tryz.prog 67 s_szScale := by
  intro args S h; unfold s_szScale at h ⊢; (split at h <;> first | exact False.elim h | skip)
  dsimp only at h ⊢
  refine funW tabOk (E := [(122, s_szFracS)]) ⟨ok_szFracS, trivial⟩ [] (k := 1) (fn := Tryz.f67) rfl rfl rfl rfl rfl rfl ?_
  (repeat' ((try (conv => whnf)); first | (with_reducible first | refine And.intro ?_ ?_ | refine WX.of ?_) | exact zc | ((with_reducible refine VC.mk ?_); exact zw) | (with_reducible first | refine splitT ?_ | refine splitF ?_) | ((with_reducible refine splitM.mk (fun hsm => ?_) (fun hsm => ?_)) <;> (try exact zx)) | ((with_reducible refine splitB.mk (fun h => ?_) (fun h => ?_)) <;> (try simp only [zs, ne_eq] at h) <;> (try simp (disch := omega) only [w64] at h) <;> (try exact zx)) | (with_reducible intro hz; (try exact absurd hz (Nat.succ_ne_zero _)))))
def s_eqScale : Spec := fun args S => match args, S with
  | [.agg [.int .i64 p, .int .i64 q, .sl 0 s n x], .agg [.int .i64 p', .int .i64 q', .sl 1 s' n' x']], [.arr (.prod (.int .i64) (.int .i64)) l 2 wr, .arr (.prod (.int .i64) (.int .i64)) l' 2 wr'] => ⟨s + n ≤ l.length ∧ s' + n' ≤ l'.length ∧ n ≤ 4611686018427387904, .bool (decide (p = p' ∧ q = q' ∧ seg l s n = seg l' s' n')), [.arr (.prod (.int .i64) (.int .i64)) l 2 wr, .arr (.prod (.int .i64) (.int .i64)) l' 2 wr']⟩
  | _, _ => noSpec
theorem ok_eqScale : SpecOk Tryz.prog 86 s_eqScale := by
  intro args S h; unfold s_eqScale at h ⊢; (split at h <;> first | exact False.elim h | skip)
  dsimp only at h ⊢
  refine funW tabOk (E := [(85, s_eqFrac), (140, s_eqFracS)]) ⟨ok_eqFrac, ok_eqFracS, trivial⟩ [] (k := 2) (fn := Tryz.f86) rfl rfl rfl rfl rfl rfl ?_
  (repeat' ((try (conv => whnf)); first | (with_reducible first | refine And.intro ?_ ?_ | refine WX.of ?_) | exact zc | ((with_reducible refine VC.mk ?_); exact zw) | (with_reducible first | refine splitT ?_ | refine splitF ?_) | ((with_reducible refine splitM.mk (fun hsm => ?_) (fun hsm => ?_)) <;> (try exact zx)) | ((with_reducible refine splitB.mk (fun h => ?_) (fun h => ?_)) <;> (try simp only [zs, ne_eq] at h) <;> (try simp (disch := omega) only [w64] at h) <;> (try exact zx)) | (with_reducible intro hz; (try exact absurd hz (Nat.succ_ne_zero _)))))
  all_goals (refine ⟨?_⟩; simp_all)
def s_toBench : Spec := fun args S => match args, S with
  | [.agg [.int .i64 p, .int .i64 q, .opt c 0 n 0, .int .i64 vp, .bool vb, .int .i64 gp, .int .i64 gq, .opt c' 1 n' 0]], [.arrO (.prod (.int .i64) (.int .i64)) l 2, .arrO (.prod .str (.prod (.prod (.int .i64) (.int .i64)) (.prod (.int .i64) (.int .i64)))) l' 5] => ⟨(n ≤ l.length ∧ (c = true → l = []) ∧ n ≤ 1048576) ∧ n' ≤ l'.length ∧ (c' = true → l' = []) ∧ n' ≤ 1048576, .agg [.int .i64 p, .int .i64 q, .sl 2 0 n 0, .int .i64 vp, .bool vb, .int .i64 gp, .int .i64 gq, .sl 3 0 n' 0], [.arrO (.prod (.int .i64) (.int .i64)) l 2, .arrO (.prod .str (.prod (.prod (.int .i64) (.int .i64)) (.prod (.int .i64) (.int .i64)))) l' 5, .arr (.prod (.int .i64) (.int .i64)) (seg l 0 n) 2 true, .arr (.prod .str (.prod (.prod (.int .i64) (.int .i64)) (.prod (.int .i64) (.int .i64)))) (seg l' 0 n') 5 true]⟩
  | _, _ => noSpec
theorem ok_toBench : SpecOk Tryz.prog 26 s_toBench := by
  intro args S h; unfold s_toBench at h ⊢; (split at h <;> first | exact False.elim h | skip)
  dsimp only at h ⊢
  refine funW tabOk (E := [(77, s_toFrac), (75, s_toScale), (76, s_toVernier), (78, s_toThingS)]) ⟨ok_toFrac, ok_toScale, ok_toVernier, ok_toThingS, trivial⟩ [] (k := 2) (fn := Tryz.f26) rfl rfl rfl rfl rfl rfl ?_
  (repeat' ((try (conv => whnf)); first | (with_reducible first | refine And.intro ?_ ?_ | refine WX.of ?_) | exact zc | ((with_reducible refine VC.mk ?_); exact zw) | exact VC.mk h.1 | exact VC.mk h.2 | (with_reducible first | refine splitT ?_ | refine splitF ?_) | ((with_reducible refine splitM.mk (fun hsm => ?_) (fun hsm => ?_)) <;> (try exact zx)) | ((with_reducible refine splitB.mk (fun h => ?_) (fun h => ?_)) <;> (try simp only [zs, ne_eq] at h) <;> (try simp (disch := omega) only [w64] at h) <;> (try exact zx)) | (with_reducible intro hz; (try exact absurd hz (Nat.succ_ne_zero _)))))
def s_szBench : Spec := fun args S => match args, S with
  | [.agg [.int .i64 p, .int .i64 q, .opt c 0 n 0, .int .i64 vp, .bool vb, .int .i64 gp, .int .i64 gq, .opt c' 1 n' 0], .int .i64 k], [.arrO (.prod (.int .i64) (.int .i64)) l 2, .arrO (.prod .str (.prod (.prod (.int .i64) (.int .i64)) (.prod (.int .i64) (.int .i64)))) l' 5] => ⟨(0 ≤ k ∧ k ≤ 1048576) ∧ n ≤ 9223372036854775807 ∧ (n' ≤ l'.length ∧ (c' = true → l' = [])) ∧ n' ≤ 9223372036854775807 ∧ (∀ (j : Nat) a, l'[j]? = some a → a.1.length ≤ 9223372036854775807), .int .i64 (max (-1) (if k - n < 0 then -1 else k - n - n' - tot (fun a : ThT => a.1.length) (seg l' 0 n'))), [.arrO (.prod (.int .i64) (.int .i64)) l 2, .arrO (.prod .str (.prod (.prod (.int .i64) (.int .i64)) (.prod (.int .i64) (.int .i64)))) l' 5]⟩
  | _, _ => noSpec
theorem ok_szBench : SpecOk Tryz.prog 23 s_szBench := by
  intro args S h; unfold s_szBench at h ⊢; (split at h <;> first | exact False.elim h | skip)
  dsimp only at h ⊢
  obtain ⟨hk, hn, hs, hn', ho⟩ := h
  refine funW tabOk (E := [(67, s_szScale), (68, s_szThingS)]) ⟨ok_szScale, ok_szThingS, trivial⟩ [] (k := 2) (fn := Tryz.f23) rfl rfl rfl rfl rfl rfl ?_
  (repeat' ((try (conv => whnf)); first | (with_reducible first | refine And.intro ?_ ?_ | refine WX.of ?_) | exact zc | ((with_reducible refine VC.mk ?_); exact zw) | ((with_reducible refine VC.mk ?_); (refine ⟨?_, ?_, ?_, ?_⟩); (omega); (exact hs); (exact hn'); (exact ho)) | (with_reducible first | refine splitT ?_ | refine splitF ?_) | ((with_reducible refine splitM.mk (fun hsm => ?_) (fun hsm => ?_)) <;> (try exact zx)) | ((with_reducible refine splitB.mk (fun h => ?_) (fun h => ?_)) <;> (try simp only [zs, ne_eq] at h) <;> (try simp (disch := omega) only [w64] at h) <;> (try exact zx)) | (with_reducible intro hz; (try exact absurd hz (Nat.succ_ne_zero _)))))
  all_goals (refine ⟨?_⟩; congr 1; split <;> omega)
def s_eqBench : Spec := fun args S => match args, S with
  | [.agg [.int .i64 p, .int .i64 q, .sl 0 s n x, .int .i64 vp, .bool vb, .int .i64 gp, .int .i64 gq, .sl 1 t m y], .agg [.int .i64 p', .int .i64 q', .sl 2 s' n' x', .int .i64 vp', .bool vb', .int .i64 gp', .int .i64 gq', .sl 3 t' m' y']], [.arr (.prod (.int .i64) (.int .i64)) l 2 wr, .arr (.prod .str (.prod (.prod (.int .i64) (.int .i64)) (.prod (.int .i64) (.int .i64)))) k 5 wk, .arr (.prod (.int .i64) (.int .i64)) l' 2 wr', .arr (.prod .str (.prod (.prod (.int .i64) (.int .i64)) (.prod (.int .i64) (.int .i64)))) k' 5 wk'] => ⟨(s + n ≤ l.length ∧ s' + n' ≤ l'.length ∧ n ≤ 4611686018427387904) ∧ t + m ≤ k.length ∧ t' + m' ≤ k'.length ∧ m ≤ 4611686018427387904, .bool (decide ((p = p' ∧ q = q' ∧ seg l s n = seg l' s' n') ∧ (vp = vp' ∧ vb = vb') ∧ (gp = gp' ∧ gq = gq') ∧ seg k t m = seg k' t' m')), [.arr (.prod (.int .i64) (.int .i64)) l 2 wr, .arr (.prod .str (.prod (.prod (.int .i64) (.int .i64)) (.prod (.int .i64) (.int .i64)))) k 5 wk, .arr (.prod (.int .i64) (.int .i64)) l' 2 wr', .arr (.prod .str (.prod (.prod (.int .i64) (.int .i64)) (.prod (.int .i64) (.int .i64)))) k' 5 wk']⟩
  | _, _ => noSpec
theorem ok_eqBench : SpecOk Tryz.prog 31 s_eqBench := by
  intro args S h; unfold s_eqBench at h ⊢; (split at h <;> first | exact False.elim h | skip)
  dsimp only at h ⊢
  refine funW tabOk (E := [(85, s_eqFrac), (86, s_eqScale), (87, s_eqVernier), (88, s_eqThingS)]) ⟨ok_eqFrac, ok_eqScale, ok_eqVernier, ok_eqThingS, trivial⟩ [] (k := 4) (fn := Tryz.f31) rfl rfl rfl rfl rfl rfl ?_
  (repeat' ((try (conv => whnf)); first | (with_reducible first | refine And.intro ?_ ?_ | refine WX.of ?_) | exact zc | ((with_reducible refine VC.mk ?_); exact zw) | (with_reducible first | refine splitT ?_ | refine splitF ?_) | ((with_reducible refine splitM.mk (fun hsm => ?_) (fun hsm => ?_)) <;> (try exact zx)) | ((with_reducible refine splitB.mk (fun h => ?_) (fun h => ?_)) <;> (try simp only [zs, ne_eq] at h) <;> (try simp (disch := omega) only [w64] at h) <;> (try exact zx)) | (with_reducible intro hz; (try exact absurd hz (Nat.succ_ne_zero _)))))
  all_goals (refine ⟨?_⟩; simp_all)
theorem smF_1k : smF 1 1000 := by unfold smF; omega
def gwB (p q : Int) : Bool := fOk p q && decide (0 ≤ p) && decide (1000 * p ≤ q)
def s_gw : Spec := fun args S => match args, S with
  | [.agg [.int .i64 p, .int .i64 q]], [] => ⟨True, .bool (gwB p q), []⟩
  | _, _ => noSpec
theorem ok_isGrowth : SpecOk Tryz.prog 136 s_gw := by
  intro args S h; unfold s_gw at h ⊢; (split at h <;> first | exact False.elim h | skip)
  dsimp only at h ⊢
  rename_i p q
  have hc := cmpF_le (p := p) (q := q) (p' := 1) (q' := 1000)
  refine funW tabOk (E := [(102, s_fOk), (50, s_cmp)]) ⟨ok_ValidFrac, ok_compare, trivial⟩ [] (k := 0) (fn := Tryz.f136) rfl rfl rfl rfl rfl rfl ?_
  (repeat' ((try (conv => whnf)); first | (with_reducible first | refine And.intro ?_ ?_ | refine WX.of ?_) | exact zc | ((with_reducible refine VC.mk ?_); exact zw) | ((with_reducible refine VC.mk ?_); (exact ⟨smF_ok ‹_›, smF_1k⟩)) | (with_reducible first | refine splitT ?_ | refine splitF ?_) | ((with_reducible refine splitM.mk (fun hsm => ?_) (fun hsm => ?_)) <;> (try exact zx)) | ((with_reducible refine splitB.mk (fun h => ?_) (fun h => ?_)) <;> (try simp only [zs, ne_eq] at h) <;> (try simp (disch := omega) only [w64] at h) <;> (try exact zx)) | (with_reducible intro hz; (try exact absurd hz (Nat.succ_ne_zero _)))))
  all_goals (refine ⟨congrArg SV.bool ?_⟩; unfold gwB; first | (simp_all; done) | (rw [Bool.eq_iff_iff]; simp_all; omega))
theorem ok_l07Grows : SpecOk Tryz.prog 126 s_gw := by
  intro args S h; unfold s_gw at h ⊢; (split at h <;> first | exact False.elim h | skip)
  dsimp only at h ⊢
  rename_i p q
  have hf : fOk p q = true → smF p q := smF_ok
  unfold smF at hf
  refine funW tabOk (E := [(146, s_fOk)]) ⟨ok_l01Ok, trivial⟩ [] (k := 0) (fn := Tryz.f126) rfl rfl rfl rfl rfl rfl ?_
  (repeat' ((try (conv => whnf)); first | (with_reducible first | refine And.intro ?_ ?_ | refine WX.of ?_) | exact zc | ((with_reducible refine VC.mk ?_); exact zw) | (with_reducible first | refine splitT ?_ | refine splitF ?_) | ((with_reducible refine splitM.mk (fun hsm => ?_) (fun hsm => ?_)) <;> (try exact zx)) | ((with_reducible refine splitB.mk (fun h => ?_) (fun h => ?_)) <;> (try simp only [zs, ne_eq] at h) <;> (try simp (disch := omega) only [w64] at h) <;> (try exact zx)) | (with_reducible intro hz; (try exact absurd hz (Nat.succ_ne_zero _)))))
  all_goals (refine ⟨congrArg SV.bool ?_⟩; unfold gwB; first | (simp_all; done) | (have hf := hf (by assumption); (try simp (disch := omega) only [w64]); rw [Bool.eq_iff_iff]; simp_all; try omega))
def wiB (p q m : Int) : Bool := fOk p q && decide (0 < p) && decide (p ≤ m * q)
def s_wi : Spec := fun args S => match args, S with
  | [.agg [.int .i64 p, .int .i64 q], .int .i64 m], [] => ⟨-1000000000 ≤ m ∧ m ≤ 1000000000, .bool (wiB p q m), []⟩
  | _, _ => noSpec
theorem ok_l02Within : SpecOk Tryz.prog 128 s_wi := by
  intro args S h; unfold s_wi at h ⊢; (split at h <;> first | exact False.elim h | skip)
  dsimp only at h ⊢
  rename_i p q m
  have hc := cmpF_le (p := p) (q := q) (p' := m) (q' := 1)
  refine funW tabOk (E := [(146, s_fOk), (56, s_num), (58, s_cmp)]) ⟨ok_l01Ok, ok_l01Whole, ok_l01Cmp, trivial⟩ [(1, [(8, 2)])] (k := 0) (fn := Tryz.f128) rfl rfl rfl rfl rfl rfl ?_
  (repeat' ((try (conv => whnf)); first | (with_reducible first | refine And.intro ?_ ?_ | refine WX.of ?_) | exact zc | ((with_reducible refine VC.mk ?_); exact zw) | (with_reducible first | refine splitT ?_ | refine splitF ?_) | ((with_reducible refine splitM.mk (fun hsm => ?_) (fun hsm => ?_)) <;> (try exact zx)) | ((with_reducible refine splitB.mk (fun h => ?_) (fun h => ?_)) <;> (try simp only [zs, ne_eq] at h) <;> (try simp (disch := omega) only [w64] at h) <;> (try exact zx)) | (with_reducible intro hz; (try exact absurd hz (Nat.succ_ne_zero _)))))
  · exact ⟨⟨smF_ok (by assumption), smF_1 (by omega)⟩⟩
  · refine ⟨congrArg SV.bool ?_⟩
    simp only [hc]; simp_all [wiB]
  · refine ⟨congrArg SV.bool ?_⟩
    simp [wiB, show ¬ 0 < p by omega]
  · refine ⟨congrArg SV.bool ?_⟩
    simp [wiB, h]
def s_isUnit : Spec := fun args S => match args, S with
  | [.agg [.int .i64 p, .int .i64 q]], [] => ⟨smF p q, .bool (decide (0 < p) && decide (p ≤ 1000 * q)), []⟩
  | _, _ => noSpec
theorem ok_isUnit : SpecOk Tryz.prog 162 s_isUnit := by
  intro args S h; unfold s_isUnit at h ⊢; (split at h <;> first | exact False.elim h | skip)
  dsimp only at h ⊢
  rename_i p q
  have hc := cmpF_le (p := p) (q := q) (p' := 1000) (q' := 1)
  refine funW tabOk (E := [(49, s_num), (50, s_cmp)]) ⟨ok_num, ok_compare, trivial⟩ [(1, [(4, 1)])] (k := 0) (fn := Tryz.f162) rfl rfl rfl rfl rfl rfl ?_
  (repeat' ((try (conv => whnf)); first | (with_reducible first | refine And.intro ?_ ?_ | refine WX.of ?_) | exact zc | ((with_reducible refine VC.mk ?_); exact zw) | (with_reducible first | refine splitT ?_ | refine splitF ?_) | ((with_reducible refine splitM.mk (fun hsm => ?_) (fun hsm => ?_)) <;> (try exact zx)) | ((with_reducible refine splitB.mk (fun h => ?_) (fun h => ?_)) <;> (try simp only [zs, ne_eq] at h) <;> (try simp (disch := omega) only [w64] at h) <;> (try exact zx)) | (with_reducible intro hz; (try exact absurd hz (Nat.succ_ne_zero _)))))
  · exact ⟨⟨by assumption, smF_1 (by omega)⟩⟩
  · refine ⟨congrArg SV.bool ?_⟩
    simp only [hc]; simp_all
  · refine ⟨congrArg SV.bool ?_⟩
    simp [show ¬ 0 < p by omega]
def s_size : Spec := fun args S => match args, S with
  | [.agg [.int .i64 p, .int .i64 q]], [] => ⟨smF p q, .agg [.int .i64 (p.natAbs : Int), .int .i64 q], []⟩
  | _, _ => noSpec
theorem ok_size : SpecOk Tryz.prog 163 s_size := by
  intro args S h; unfold s_size at h ⊢; (split at h <;> first | exact False.elim h | skip)
  dsimp only at h ⊢
  rename_i p q
  unfold smF at h
  refine funW tabOk (E := []) trivial [] (k := 0) (fn := Tryz.f163) rfl rfl rfl rfl rfl rfl ?_
  (repeat' ((try (conv => whnf)); first | (with_reducible first | refine And.intro ?_ ?_ | refine WX.of ?_) | exact zc | ((with_reducible refine VC.mk ?_); exact zw) | (with_reducible first | refine splitT ?_ | refine splitF ?_) | ((with_reducible refine splitM.mk (fun hsm => ?_) (fun hsm => ?_)) <;> (try exact zx)) | ((with_reducible refine splitB.mk (fun h => ?_) (fun h => ?_)) <;> (try simp only [zs, ne_eq] at h) <;> (try simp (disch := omega) only [w64] at h) <;> (try exact zx)) | (with_reducible intro hz; (try exact absurd hz (Nat.succ_ne_zero _)))))
  refine ⟨?_⟩
  dsimp only
  rw [w64 (by omega)]
  have e : (if 0 - p > p then 0 - p else p) = (p.natAbs : Int) := by split <;> omega
  rw [e]
theorem ok_l07Name : SpecOk Tryz.prog 127 s_word := by
  intro args S h; unfold s_word at h ⊢; (split at h <;> first | exact False.elim h | skip)
  dsimp only at h ⊢
  rename_i s
  refine funW tabOk (E := []) trivial [] (k := 0) (fn := Tryz.f127) rfl rfl rfl rfl rfl rfl ?_
  (repeat' ((try (conv => whnf)); first | (with_reducible first | refine And.intro ?_ ?_ | refine WX.of ?_) | exact zc | ((with_reducible refine VC.mk ?_); exact zw) | (with_reducible first | refine splitT ?_ | refine splitF ?_) | ((with_reducible refine splitM.mk (fun hsm => ?_) (fun hsm => ?_)) <;> (try exact zx)) | ((with_reducible refine splitB.mk (fun h => ?_) (fun h => ?_)) <;> (try simp only [zs, ne_eq] at h) <;> (try simp (disch := omega) only [w64] at h) <;> (try exact zx)) | (with_reducible intro hz; (try exact absurd hz (Nat.succ_ne_zero _)))))
  refine loopW tabOk (E := []) trivial [] (σ := Nat) (fun i => [(0, .str s), (3, .int .i64 i)]) (fun i => []) (fun i => s.length - i) (fun i => i ≤ s.length ∧ ∀ (j : Nat) c, j < i → s[j]? = some c → letB c = true) 0 ⟨Nat.zero_le _, fun j a hj => by omega⟩ ?_ ?_
  · (repeat' ((try (conv => whnf)); first | (with_reducible first | refine And.intro ?_ ?_ | refine WX.of ?_) | exact zc | ((with_reducible refine VC.mk ?_); exact zw) | (with_reducible first | refine splitT ?_ | refine splitF ?_) | ((with_reducible refine splitM.mk (fun hsm => ?_) (fun hsm => ?_)) <;> (try exact zx)) | ((with_reducible refine splitB.mk (fun h => ?_) (fun h => ?_)) <;> (try simp only [zs, ne_eq] at h) <;> (try simp (disch := omega) only [w64] at h) <;> (try exact zx)) | (with_reducible intro hz; (try exact absurd hz (Nat.succ_ne_zero _)))))
  · intro i ⟨hi, hp⟩
    by_cases hlt : i < s.length
    · obtain ⟨c, hc⟩ := get_some (l := s) (i := i) (by omega)
      (repeat' ((try (conv => whnf)); first | (with_reducible first | refine And.intro ?_ ?_ | refine WX.of ?_) | exact zc | ((with_reducible refine VC.mk ?_); exact zw) | refine atL_n hc ?_ | (with_reducible first | refine splitT ?_ | refine splitF ?_) | ((with_reducible refine splitM.mk (fun hsm => ?_) (fun hsm => ?_)) <;> (try exact zx)) | ((with_reducible refine splitB.mk (fun h => ?_) (fun h => ?_)) <;> (try simp only [zs, ne_eq] at h) <;> (try simp (disch := omega) only [w64] at h) <;> (try exact zx)) | (with_reducible intro hz; (try exact absurd hz (Nat.succ_ne_zero _)))))
      · exact ⟨by rw [word_no hc (by unfold letB; rw [decide_eq_false]; omega)]⟩
      · exact ⟨by rw [word_no hc (by unfold letB; rw [decide_eq_false]; omega)]⟩
      · refine ⟨i + 1, by omega, ⟨hlt, upto_step hc (by unfold letB; rw [decide_eq_true]; omega) hp⟩, ?_⟩
        (repeat' ((try (conv => whnf)); first | (with_reducible first | refine And.intro ?_ ?_ | refine WX.of ?_) | exact zc | ((with_reducible refine VC.mk ?_); exact zw) | (with_reducible first | refine splitT ?_ | refine splitF ?_) | ((with_reducible refine splitM.mk (fun hsm => ?_) (fun hsm => ?_)) <;> (try exact zx)) | ((with_reducible refine splitB.mk (fun h => ?_) (fun h => ?_)) <;> (try simp only [zs, ne_eq] at h) <;> (try simp (disch := omega) only [w64] at h) <;> (try exact zx)) | (with_reducible intro hz; (try exact absurd hz (Nat.succ_ne_zero _)))))
    · (repeat' ((try (conv => whnf)); first | (with_reducible first | refine And.intro ?_ ?_ | refine WX.of ?_) | exact zc | ((with_reducible refine VC.mk ?_); exact zw) | (with_reducible first | refine splitT ?_ | refine splitF ?_) | ((with_reducible refine splitM.mk (fun hsm => ?_) (fun hsm => ?_)) <;> (try exact zx)) | ((with_reducible refine splitB.mk (fun h => ?_) (fun h => ?_)) <;> (try simp only [zs, ne_eq] at h) <;> (try simp (disch := omega) only [w64] at h) <;> (try exact zx)) | (with_reducible intro hz; (try exact absurd hz (Nat.succ_ne_zero _)))))
      · have ha := word_all fun j c hj => hp j c (by have := (List.getElem?_eq_some_iff.1 hj).1; omega) hj
        have hl : 1 ≤ s.length := by cases s with | nil => exact absurd rfl h | cons a r => simp
        refine ⟨congrArg SV.bool ?_⟩
        unfold wordB; rw [ha, Bool.and_true, decide_eq_decide]; omega
      · subst h; exact ⟨congrArg SV.bool (by simp [wordB])⟩
def s_ver : Spec := fun args S => match args, S with
  | [.agg [.int .i64 p, .bool b]], [] => ⟨True, .bool (decide (2 ≤ p ∧ p ≤ 40)), []⟩
  | _, _ => noSpec
theorem ok_ValidVernier : SpecOk Tryz.prog 138 s_ver := by
  intro args S h; unfold s_ver at h ⊢; (split at h <;> first | exact False.elim h | skip)
  dsimp only at h ⊢
  refine funW tabOk (E := [(101, s_within)]) ⟨ok_within, trivial⟩ [] (k := 0) (fn := Tryz.f138) rfl rfl rfl rfl rfl rfl ?_
  (repeat' ((try (conv => whnf)); first | (with_reducible first | refine And.intro ?_ ?_ | refine WX.of ?_) | exact zc | ((with_reducible refine VC.mk ?_); exact zw) | (with_reducible first | refine splitT ?_ | refine splitF ?_) | ((with_reducible refine splitM.mk (fun hsm => ?_) (fun hsm => ?_)) <;> (try exact zx)) | ((with_reducible refine splitB.mk (fun h => ?_) (fun h => ?_)) <;> (try simp only [zs, ne_eq] at h) <;> (try simp (disch := omega) only [w64] at h) <;> (try exact zx)) | (with_reducible intro hz; (try exact absurd hz (Nat.succ_ne_zero _)))))
/-- A valid scale. -/
def mkOk (up uq : Int) (k : Nat) (e : Int × Int) : Bool := redOk (k * up) (1 * uq) && redOk (tolP (k * up) (1 * uq) * e.2 + e.1 * tolQ (k * up) (1 * uq)) (tolQ (k * up) (1 * uq) * e.2)
def elB (up uq : Int) (k : Nat) (e : Int × Int) : Bool := fOk e.1 e.2 && decide (4 * (e.1.natAbs : Int) * uq ≤ up * e.2) && mkOk up uq k e
def scB (up uq : Int) (E : List (Int × Int)) : Bool := fOk up uq && (decide (0 < up) && decide (up ≤ 1000 * uq)) && decide (2 ≤ E.length ∧ E.length ≤ 60) && allI (0, 0) (elB up uq) E
theorem fallF_at {L : List (Int × Int)} {k : Nat} {a : Int × Int} (h : allF L = true) (ha : L[k]? = some a) : fOk a.1 a.2 = true := List.all_eq_true.1 h a (List.mem_of_getElem? ha)
theorem sc_no {up uq : Int} {E : List (Int × Int)} {k : Nat} {a : Int × Int} (ha : E[k]? = some a) (h : elB up uq k a = false) : scB up uq E = false := by
  unfold scB; rw [allI_no ha h, Bool.and_false]
theorem sc_yes {up uq : Int} {E : List (Int × Int)} {n : Nat} (hn : E.length = n) (h1 : fOk up uq = true) (h2 : 0 < up ∧ up ≤ 1000 * uq) (h3 : 2 ≤ n ∧ n ≤ 60) (h : ∀ (k : Nat) a, k < n → E[k]? = some a → elB up uq k a = true) : scB up uq E = true := by
  unfold scB; rw [allI_yes hn h, h1, decide_eq_true h2.1, decide_eq_true h2.2, decide_eq_true (by omega)]; rfl
theorem quad {up uq p q : Int} (h1 : smF up uq) (h2 : smF p q) : (-4000000000000000000 ≤ 4 * (p.natAbs : Int) * uq ∧ 4 * (p.natAbs : Int) * uq ≤ 4000000000000000000) ∧ -1000000000000000000 ≤ up * q ∧ up * q ≤ 1000000000000000000 := by
  unfold smF at h1 h2
  have e1 := mulB (a := (p.natAbs : Int)) (b := uq) (by omega) (by omega)
  have e2 := mulB (a := up) (b := q) (by omega) (by omega)
  rw [Int.mul_assoc]
  omega
def s_vScale : Spec := fun args S => match args, S with
  | [.agg [.int .i64 up, .int .i64 uq, .sl 0 s n x]], [.arr (.prod (.int .i64) (.int .i64)) l 2 wr] => ⟨s + n ≤ l.length ∧ n ≤ 1048576, .bool (scB up uq (seg l s n)), [.arr (.prod (.int .i64) (.int .i64)) l 2 wr]⟩
  | _, _ => noSpec
theorem ok_ValidScale : SpecOk Tryz.prog 137 s_vScale := by
  intro args S h; unfold s_vScale at h ⊢; (split at h <;> first | exact False.elim h | skip)
  dsimp only at h ⊢
  rename_i up uq s n x l wr
  have hL := seg_len h.1
  refine funW tabOk (E := [(102, s_fOk), (162, s_isUnit), (101, s_within), (61, s_allF), (163, s_size), (49, s_num), (48, s_mul), (44, s_add)]) ⟨ok_ValidFrac, ok_isUnit, ok_within, ok_areValid, ok_size, ok_num, ok_mul, ok_add, trivial⟩ [(7, [(6, 0), (10, 0), (12, 0)]), (9, [(5, 0), (7, 0), (7, 1)])] (k := 1) (fn := Tryz.f137) rfl rfl rfl rfl rfl rfl ?_
  (repeat' ((try (conv => whnf)); first | (with_reducible first | refine And.intro ?_ ?_ | refine WX.of ?_) | exact zc | ((with_reducible refine VC.mk ?_); exact zw) | ((with_reducible refine VC.mk ?_); (exact smF_ok ‹_›)) | (with_reducible first | refine splitT ?_ | refine splitF ?_) | ((with_reducible refine splitM.mk (fun hsm => ?_) (fun hsm => ?_)) <;> (try exact zx)) | ((with_reducible refine splitB.mk (fun h => ?_) (fun h => ?_)) <;> (try simp only [zs, ne_eq] at h) <;> (try simp (disch := omega) only [w64] at h) <;> (try exact zx)) | (with_reducible intro hz; (try exact absurd hz (Nat.succ_ne_zero _)))))
  · exact ⟨congrArg SV.bool (by simp [scB, h])⟩
  · exact ⟨congrArg SV.bool (by simp only [scB, h, Bool.and_false, Bool.false_and])⟩
  · exact ⟨congrArg SV.bool (by unfold scB; rw [hL, show decide (2 ≤ n ∧ n ≤ 60) = false from decide_eq_false (by omega), Bool.and_false, Bool.false_and])⟩
  · refine ⟨congrArg SV.bool ?_⟩
    unfold allF at h
    rw [List.all_eq_false] at h
    obtain ⟨a, ha, hb⟩ := h
    obtain ⟨j, hj⟩ := List.getElem?_of_mem ha
    rw [sc_no hj (by unfold elB; simp at hb; simp [hb])]
  · rename_i hU hu hn
    have hV := h
    have hsU := smF_ok hU
    have hu2 : 0 < up ∧ up ≤ 1000 * uq := by simpa using hu
    refine loopW tabOk (E := [(102, s_fOk), (162, s_isUnit), (101, s_within), (61, s_allF), (163, s_size), (49, s_num), (48, s_mul), (44, s_add)]) ⟨ok_ValidFrac, ok_isUnit, ok_within, ok_areValid, ok_size, ok_num, ok_mul, ok_add, trivial⟩ [(7, [(6, 0), (10, 0), (12, 0)]), (9, [(5, 0), (7, 0), (7, 1)])] (σ := Nat) (fun i => [(1, .ptr 1 0 0), (3, .ptr 2 0 0), (32, .sl 0 s n x), (33, .int .i64 n), (34, .int .i64 i)]) (fun i => [.arr (.prod (.int .i64) (.int .i64)) l 2 wr, .box [.int .i64 up, .int .i64 uq, .sl 0 s n x] true false, .arr .bool [!allI (0, 0) (mkOk up uq) ((seg l s n).take i)] 0 true]) (fun i => n - i) (fun i => i ≤ n ∧ ∀ (j : Nat) (a : Int × Int), j < i → (seg l s n)[j]? = some a → (fOk a.1 a.2 && decide (4 * (a.1.natAbs : Int) * uq ≤ up * a.2)) = true) 0 ⟨Nat.zero_le _, fun j a hj => by omega⟩ ?_ ?_
    · (repeat' ((try (conv => whnf)); first | (with_reducible first | refine And.intro ?_ ?_ | refine WX.of ?_) | exact zc | ((with_reducible refine VC.mk ?_); exact zw) | (with_reducible first | refine splitT ?_ | refine splitF ?_) | ((with_reducible refine splitM.mk (fun hsm => ?_) (fun hsm => ?_)) <;> (try exact zx)) | ((with_reducible refine splitB.mk (fun h => ?_) (fun h => ?_)) <;> (try simp only [zs, ne_eq] at h) <;> (try simp (disch := omega) only [w64] at h) <;> (try exact zx)) | (with_reducible intro hz; (try exact absurd hz (Nat.succ_ne_zero _)))))
    · intro i ⟨hi, hp⟩
      by_cases hlt : i < n
      · obtain ⟨⟨p, q⟩, ha⟩ := get_some (l := seg l s n) (i := i) (by omega)
        have hf : fOk p q = true := fallF_at hV ha
        have hsf := smF_ok hf
        have hsb := hsf
        unfold smF at hsb
        have hq4 := quad hsU hsf
        have hk : smF (i : Int) 1 := smF_1 (by omega)
        have ht := smF_tol ((i : Int) * up) (1 * uq)
        (repeat' ((try (conv => whnf)); first | (with_reducible first | refine And.intro ?_ ?_ | refine WX.of ?_) | exact zc | ((with_reducible refine VC.mk ?_); exact zw) | with_reducible refine atL_i ha ?_ | ((with_reducible refine VC.mk ?_); exact hsf) | ((with_reducible refine VC.mk ?_); exact ⟨rfl, hk, hsU⟩) | ((with_reducible refine VC.mk ?_); exact ⟨rfl, ht, hsf⟩) | (with_reducible first | refine splitT ?_ | refine splitF ?_) | ((with_reducible refine splitM.mk (fun hsm => ?_) (fun hsm => ?_)) <;> (try exact zx)) | ((with_reducible refine splitB.mk (fun h => ?_) (fun h => ?_)) <;> (try simp only [zs, ne_eq] at h) <;> (try simp (disch := omega) only [w64] at h) <;> (try exact zx)) | (with_reducible intro hz; (try exact absurd hz (Nat.succ_ne_zero _)))))
        · have hd : decide (4 * (p.natAbs : Int) * uq ≤ up * q) = false := decide_eq_false (by omega)
          exact ⟨congrArg SV.bool (by rw [sc_no ha (by unfold elB; dsimp only; rw [hd, Bool.and_false, Bool.false_and])])⟩
        · have hd : decide (4 * (p.natAbs : Int) * uq ≤ up * q) = true := decide_eq_true (by omega)
          refine ⟨i + 1, by omega, ⟨hlt, upto_step ha (by dsimp only; rw [hf, hd]; rfl) hp⟩, ?_⟩
          (repeat' ((try (conv => whnf)); first | (with_reducible first | refine And.intro ?_ ?_ | refine WX.of ?_) | exact zc | ((with_reducible refine VC.mk ?_); exact zw) | (with_reducible first | refine splitT ?_ | refine splitF ?_) | ((with_reducible refine splitM.mk (fun hsm => ?_) (fun hsm => ?_)) <;> (try exact zx)) | ((with_reducible refine splitB.mk (fun h => ?_) (fun h => ?_)) <;> (try simp only [zs, ne_eq] at h) <;> (try simp (disch := omega) only [w64] at h) <;> (try exact zx)) | (with_reducible intro hz; (try exact absurd hz (Nat.succ_ne_zero _)))))
          refine ⟨?_⟩
          rw [allI_snoc ha]
          simp [mkOk, Bool.or_assoc]
      · obtain rfl : i = n := by omega
        rw [List.take_of_length_le (by omega)]
        (repeat' ((try (conv => whnf)); first | (with_reducible first | refine And.intro ?_ ?_ | refine WX.of ?_) | exact zc | ((with_reducible refine VC.mk ?_); exact zw) | (with_reducible first | refine splitT ?_ | refine splitF ?_) | ((with_reducible refine splitM.mk (fun hsm => ?_) (fun hsm => ?_)) <;> (try exact zx)) | ((with_reducible refine splitB.mk (fun h => ?_) (fun h => ?_)) <;> (try simp only [zs, ne_eq] at h) <;> (try simp (disch := omega) only [w64] at h) <;> (try exact zx)) | (with_reducible intro hz; (try exact absurd hz (Nat.succ_ne_zero _)))))
        refine ⟨congrArg SV.bool ?_⟩
        rw [Bool.not_not]
        cases hm : allI (0, 0) (mkOk up uq) (seg l s i) with
        | true => exact (sc_yes hL hU hu2 (by omega) (fun k a hk ha => by unfold elB; rw [hp k a hk ha, allI_at hm ha]; rfl)).symm
        | false =>
          cases hs : scB up uq (seg l s i) with
          | false => rfl
          | true =>
            unfold scB at hs
            rw [Bool.and_eq_true] at hs
            have : allI (0, 0) (mkOk up uq) (seg l s i) = true := allI_iff.2 fun k a ha => by
              have := allI_at hs.2 ha
              unfold elB at this
              rw [Bool.and_eq_true] at this
              exact this.2
            rw [this] at hm; simp at hm
end Go.Proofs.YtonnkpclllmkoaaGreat.Eng
