/- Lemmas for the proof, no conditions of their own. -/
import Derived.Test.YtghafpklomnhlaaQA2
import Derived.Test.YtghafpklomnhlaaProg
import Derived.KernelRfl
set_option linter.unusedVariables false
set_option linter.unusedSimpArgs false
set_option maxRecDepth 100000
namespace Go.Proofs.Ytghafpklomnhlaa.Eng
open Go Go.RowKit
def t_1 : TyD := { und := TypeDesc.func #[] #[] false, size := 1, bytes := 8, zero := [Value.nilFunc], fl := false }
theorem i_1 : TabE Try.prog (1, t_1, false) := ⟨by kernel_rfl, fun h => by simp at h⟩
def t_2 : TyD := { und := TypeDesc.int IntKind.i64, size := 1, bytes := 8, zero := [Value.int IntKind.i64 0], fl := true }
theorem i_2 : TabE Try.prog (2, t_2, false) := ⟨by kernel_rfl, fun h => by simp at h⟩
def t_3 : TyD := { und := TypeDesc.int IntKind.i64, size := 1, bytes := 8, zero := [Value.int IntKind.i64 0], fl := true }
theorem i_3 : TabE Try.prog (3, t_3, false) := ⟨by kernel_rfl, fun h => by simp at h⟩
def t_4 : TyD := { und := TypeDesc.bool, size := 1, bytes := 1, zero := [Value.bool false], fl := true }
theorem i_4 : TabE Try.prog (4, t_4, false) := ⟨by kernel_rfl, fun h => by simp at h⟩
def t_5 : TyD := { und := TypeDesc.int IntKind.u8, size := 1, bytes := 1, zero := [Value.int IntKind.u8 0], fl := true }
theorem i_5 : TabE Try.prog (5, t_5, false) := ⟨by kernel_rfl, fun h => by simp at h⟩
def t_6 : TyD := { und := TypeDesc.int IntKind.u8, size := 1, bytes := 1, zero := [Value.int IntKind.u8 0], fl := true }
theorem i_6 : TabE Try.prog (6, t_6, false) := ⟨by kernel_rfl, fun h => by simp at h⟩
def t_7 : TyD := { und := TypeDesc.struct #[{ name := "x", type := 2, offset := 0, embedded := false, tag := "", pkgPath := "runtime", byteOffset := 0 }, { name := "y", type := 3, offset := 1, embedded := false, tag := "", pkgPath := "runtime", byteOffset := 8 }, { name := "signed", type := 4, offset := 2, embedded := false, tag := "", pkgPath := "runtime", byteOffset := 16 }, { name := "code", type := 6, offset := 3, embedded := false, tag := "", pkgPath := "runtime", byteOffset := 17 }], size := 4, bytes := 24, zero := [Value.int IntKind.i64 0, Value.int IntKind.i64 0, Value.bool false, Value.int IntKind.u8 0], fl := true }
theorem i_7 : TabE Try.prog (7, t_7, true) := ⟨by kernel_rfl, fun _ => by kernel_rfl⟩
def t_8 : TyD := { und := TypeDesc.struct #[{ name := "x", type := 2, offset := 0, embedded := false, tag := "", pkgPath := "runtime", byteOffset := 0 }, { name := "y", type := 3, offset := 1, embedded := false, tag := "", pkgPath := "runtime", byteOffset := 8 }, { name := "signed", type := 4, offset := 2, embedded := false, tag := "", pkgPath := "runtime", byteOffset := 16 }, { name := "code", type := 6, offset := 3, embedded := false, tag := "", pkgPath := "runtime", byteOffset := 17 }], size := 4, bytes := 24, zero := [Value.int IntKind.i64 0, Value.int IntKind.i64 0, Value.bool false, Value.int IntKind.u8 0], fl := true }
theorem i_8 : TabE Try.prog (8, t_8, true) := ⟨by kernel_rfl, fun _ => by kernel_rfl⟩
def t_9 : TyD := { und := TypeDesc.string, size := 1, bytes := 16, zero := [Value.string ⟨#[]⟩], fl := true }
theorem i_9 : TabE Try.prog (9, t_9, false) := ⟨by kernel_rfl, fun h => by simp at h⟩
def t_10 : TyD := { und := TypeDesc.string, size := 1, bytes := 16, zero := [Value.string ⟨#[]⟩], fl := true }
theorem i_10 : TabE Try.prog (10, t_10, false) := ⟨by kernel_rfl, fun h => by simp at h⟩
def t_11 : TyD := { und := TypeDesc.string, size := 1, bytes := 16, zero := [Value.string ⟨#[]⟩], fl := true }
theorem i_11 : TabE Try.prog (11, t_11, false) := ⟨by kernel_rfl, fun h => by simp at h⟩
def t_12 : TyD := { und := TypeDesc.int IntKind.u64, size := 1, bytes := 8, zero := [Value.int IntKind.u64 0], fl := true }
theorem i_12 : TabE Try.prog (12, t_12, false) := ⟨by kernel_rfl, fun h => by simp at h⟩
def t_13 : TyD := { und := TypeDesc.struct #[{ name := "msg", type := 9, offset := 0, embedded := false, tag := "", pkgPath := "runtime", byteOffset := 0 }, { name := "addr", type := 12, offset := 1, embedded := false, tag := "", pkgPath := "runtime", byteOffset := 16 }], size := 2, bytes := 24, zero := [Value.string ⟨#[]⟩, Value.int IntKind.u64 0], fl := true }
theorem i_13 : TabE Try.prog (13, t_13, false) := ⟨by kernel_rfl, fun h => by simp at h⟩
def t_14 : TyD := { und := TypeDesc.struct #[{ name := "msg", type := 9, offset := 0, embedded := false, tag := "", pkgPath := "runtime", byteOffset := 0 }, { name := "addr", type := 12, offset := 1, embedded := false, tag := "", pkgPath := "runtime", byteOffset := 16 }], size := 2, bytes := 24, zero := [Value.string ⟨#[]⟩, Value.int IntKind.u64 0], fl := true }
theorem i_14 : TabE Try.prog (14, t_14, false) := ⟨by kernel_rfl, fun h => by simp at h⟩
def t_15 : TyD := { und := TypeDesc.pointer 179, size := 1, bytes := 8, zero := [Value.pointer none], fl := false }
theorem i_15 : TabE Try.prog (15, t_15, false) := ⟨by kernel_rfl, fun h => by simp at h⟩
def t_16 : TyD := { und := TypeDesc.pointer 182, size := 1, bytes := 8, zero := [Value.pointer none], fl := false }
theorem i_16 : TabE Try.prog (16, t_16, false) := ⟨by kernel_rfl, fun h => by simp at h⟩
def t_17 : TyD := { und := TypeDesc.pointer 192, size := 1, bytes := 8, zero := [Value.pointer none], fl := false }
theorem i_17 : TabE Try.prog (17, t_17, false) := ⟨by kernel_rfl, fun h => by simp at h⟩
def t_18 : TyD := { und := TypeDesc.struct #[{ name := "typ", type := 17, offset := 0, embedded := false, tag := "", pkgPath := "internal/runtime/maps", byteOffset := 0 }], size := 1, bytes := 8, zero := [Value.pointer none], fl := false }
theorem i_18 : TabE Try.prog (18, t_18, false) := ⟨by kernel_rfl, fun h => by simp at h⟩
def t_19 : TyD := { und := TypeDesc.struct #[{ name := "typ", type := 17, offset := 0, embedded := false, tag := "", pkgPath := "internal/runtime/maps", byteOffset := 0 }], size := 1, bytes := 8, zero := [Value.pointer none], fl := false }
theorem i_19 : TabE Try.prog (19, t_19, false) := ⟨by kernel_rfl, fun h => by simp at h⟩
def t_21 : TyD := { und := TypeDesc.int IntKind.i32, size := 1, bytes := 4, zero := [Value.int IntKind.i32 0], fl := true }
theorem i_21 : TabE Try.prog (21, t_21, false) := ⟨by kernel_rfl, fun h => by simp at h⟩
def t_22 : TyD := { und := TypeDesc.slice 71, size := 1, bytes := 24, zero := [Value.slice none 0 0], fl := false }
theorem i_22 : TabE Try.prog (22, t_22, false) := ⟨by kernel_rfl, fun h => by simp at h⟩
def t_23 : TyD := { und := TypeDesc.func #[22, 3] #[3] false, size := 1, bytes := 8, zero := [Value.nilFunc], fl := false }
theorem i_23 : TabE Try.prog (23, t_23, false) := ⟨by kernel_rfl, fun h => by simp at h⟩
def t_24 : TyD := { und := TypeDesc.slice 2, size := 1, bytes := 24, zero := [Value.slice none 0 0], fl := false }
theorem i_24 : TabE Try.prog (24, t_24, false) := ⟨by kernel_rfl, fun h => by simp at h⟩
def t_26 : TyD := { und := TypeDesc.func #[27, 2, 2] #[24, 2] false, size := 1, bytes := 8, zero := [Value.nilFunc], fl := false }
theorem i_26 : TabE Try.prog (26, t_26, false) := ⟨by kernel_rfl, fun h => by simp at h⟩
def t_27 : TyD := { und := TypeDesc.slice 57, size := 1, bytes := 24, zero := [Value.slice none 0 0], fl := false }
theorem i_27 : TabE Try.prog (27, t_27, false) := ⟨by kernel_rfl, fun h => by simp at h⟩
def t_28 : TyD := { und := TypeDesc.func #[22] #[27] false, size := 1, bytes := 8, zero := [Value.nilFunc], fl := false }
theorem i_28 : TabE Try.prog (28, t_28, false) := ⟨by kernel_rfl, fun h => by simp at h⟩
def t_29 : TyD := { und := TypeDesc.func #[24, 24] #[4] false, size := 1, bytes := 8, zero := [Value.nilFunc], fl := false }
theorem i_29 : TabE Try.prog (29, t_29, false) := ⟨by kernel_rfl, fun h => by simp at h⟩
def t_30 : TyD := { und := TypeDesc.func #[27, 27] #[4] false, size := 1, bytes := 8, zero := [Value.nilFunc], fl := false }
theorem i_30 : TabE Try.prog (30, t_30, false) := ⟨by kernel_rfl, fun h => by simp at h⟩
def t_31 : TyD := { und := TypeDesc.func #[27, 3] #[3] false, size := 1, bytes := 8, zero := [Value.nilFunc], fl := false }
theorem i_31 : TabE Try.prog (31, t_31, false) := ⟨by kernel_rfl, fun h => by simp at h⟩
def t_32 : TyD := { und := TypeDesc.func #[24, 3] #[3] false, size := 1, bytes := 8, zero := [Value.nilFunc], fl := false }
theorem i_32 : TabE Try.prog (32, t_32, false) := ⟨by kernel_rfl, fun h => by simp at h⟩
def t_33 : TyD := { und := TypeDesc.func #[22, 2, 2] #[4] false, size := 1, bytes := 8, zero := [Value.nilFunc], fl := false }
theorem i_33 : TabE Try.prog (33, t_33, false) := ⟨by kernel_rfl, fun h => by simp at h⟩
def t_34 : TyD := { und := TypeDesc.slice 5, size := 1, bytes := 24, zero := [Value.slice none 0 0], fl := false }
theorem i_34 : TabE Try.prog (34, t_34, false) := ⟨by kernel_rfl, fun h => by simp at h⟩
def t_35 : TyD := { und := TypeDesc.func #[34, 34] #[4] false, size := 1, bytes := 8, zero := [Value.nilFunc], fl := false }
theorem i_35 : TabE Try.prog (35, t_35, false) := ⟨by kernel_rfl, fun h => by simp at h⟩
def t_36 : TyD := { und := TypeDesc.struct #[{ name := "P", type := 2, offset := 0, embedded := false, tag := "", pkgPath := "", byteOffset := 0 }, { name := "Q", type := 2, offset := 1, embedded := false, tag := "", pkgPath := "", byteOffset := 8 }], size := 2, bytes := 16, zero := [Value.int IntKind.i64 0, Value.int IntKind.i64 0], fl := true }
theorem i_36 : TabE Try.prog (36, t_36, true) := ⟨by kernel_rfl, fun _ => by kernel_rfl⟩
def t_37 : TyD := { und := TypeDesc.struct #[{ name := "P", type := 2, offset := 0, embedded := false, tag := "", pkgPath := "", byteOffset := 0 }, { name := "Q", type := 2, offset := 1, embedded := false, tag := "", pkgPath := "", byteOffset := 8 }], size := 2, bytes := 16, zero := [Value.int IntKind.i64 0, Value.int IntKind.i64 0], fl := true }
theorem i_37 : TabE Try.prog (37, t_37, true) := ⟨by kernel_rfl, fun _ => by kernel_rfl⟩
def t_38 : TyD := { und := TypeDesc.func #[34] #[37] false, size := 1, bytes := 8, zero := [Value.nilFunc], fl := false }
theorem i_38 : TabE Try.prog (38, t_38, false) := ⟨by kernel_rfl, fun h => by simp at h⟩
def t_39 : TyD := { und := TypeDesc.slice 43, size := 1, bytes := 24, zero := [Value.slice none 0 0], fl := false }
theorem i_39 : TabE Try.prog (39, t_39, false) := ⟨by kernel_rfl, fun h => by simp at h⟩
def t_40 : TyD := { und := TypeDesc.func #[34, 2, 2] #[2] false, size := 1, bytes := 8, zero := [Value.nilFunc], fl := false }
theorem i_40 : TabE Try.prog (40, t_40, false) := ⟨by kernel_rfl, fun h => by simp at h⟩
def t_41 : TyD := { und := TypeDesc.int IntKind.i16, size := 1, bytes := 2, zero := [Value.int IntKind.i16 0], fl := true }
theorem i_41 : TabE Try.prog (41, t_41, false) := ⟨by kernel_rfl, fun h => by simp at h⟩
def t_42 : TyD := { und := TypeDesc.struct #[{ name := "Name", type := 9, offset := 0, embedded := false, tag := "", pkgPath := "", byteOffset := 0 }, { name := "Bias", type := 41, offset := 1, embedded := false, tag := "", pkgPath := "", byteOffset := 16 }, { name := "Unit", type := 41, offset := 2, embedded := false, tag := "", pkgPath := "", byteOffset := 18 }, { name := "Up", type := 4, offset := 3, embedded := false, tag := "", pkgPath := "", byteOffset := 20 }], size := 4, bytes := 24, zero := [Value.string ⟨#[]⟩, Value.int IntKind.i16 0, Value.int IntKind.i16 0, Value.bool false], fl := true }
theorem i_42 : TabE Try.prog (42, t_42, true) := ⟨by kernel_rfl, fun _ => by kernel_rfl⟩
def t_43 : TyD := { und := TypeDesc.struct #[{ name := "Name", type := 9, offset := 0, embedded := false, tag := "", pkgPath := "", byteOffset := 0 }, { name := "Bias", type := 41, offset := 1, embedded := false, tag := "", pkgPath := "", byteOffset := 16 }, { name := "Unit", type := 41, offset := 2, embedded := false, tag := "", pkgPath := "", byteOffset := 18 }, { name := "Up", type := 4, offset := 3, embedded := false, tag := "", pkgPath := "", byteOffset := 20 }], size := 4, bytes := 24, zero := [Value.string ⟨#[]⟩, Value.int IntKind.i16 0, Value.int IntKind.i16 0, Value.bool false], fl := true }
theorem i_43 : TabE Try.prog (43, t_43, true) := ⟨by kernel_rfl, fun _ => by kernel_rfl⟩
def t_44 : TyD := { und := TypeDesc.func #[34] #[43] false, size := 1, bytes := 8, zero := [Value.nilFunc], fl := false }
theorem i_44 : TabE Try.prog (44, t_44, false) := ⟨by kernel_rfl, fun h => by simp at h⟩
def t_46 : TyD := { und := TypeDesc.func #[43, 37] #[2, 2] false, size := 1, bytes := 8, zero := [Value.nilFunc], fl := false }
theorem i_46 : TabE Try.prog (46, t_46, false) := ⟨by kernel_rfl, fun h => by simp at h⟩
def t_47 : TyD := { und := TypeDesc.struct #[{ name := "Low", type := 37, offset := 0, embedded := false, tag := "", pkgPath := "", byteOffset := 0 }, { name := "High", type := 37, offset := 2, embedded := false, tag := "", pkgPath := "", byteOffset := 16 }], size := 4, bytes := 32, zero := [Value.int IntKind.i64 0, Value.int IntKind.i64 0, Value.int IntKind.i64 0, Value.int IntKind.i64 0], fl := true }
theorem i_47 : TabE Try.prog (47, t_47, true) := ⟨by kernel_rfl, fun _ => by kernel_rfl⟩
def t_48 : TyD := { und := TypeDesc.struct #[{ name := "Low", type := 37, offset := 0, embedded := false, tag := "", pkgPath := "", byteOffset := 0 }, { name := "High", type := 37, offset := 2, embedded := false, tag := "", pkgPath := "", byteOffset := 16 }], size := 4, bytes := 32, zero := [Value.int IntKind.i64 0, Value.int IntKind.i64 0, Value.int IntKind.i64 0, Value.int IntKind.i64 0], fl := true }
theorem i_48 : TabE Try.prog (48, t_48, true) := ⟨by kernel_rfl, fun _ => by kernel_rfl⟩
def t_50 : TyD := { und := TypeDesc.func #[39, 24] #[48, 2] false, size := 1, bytes := 8, zero := [Value.nilFunc], fl := false }
theorem i_50 : TabE Try.prog (50, t_50, false) := ⟨by kernel_rfl, fun h => by simp at h⟩
def t_52 : TyD := { und := TypeDesc.func #[48, 37] #[4, 2] false, size := 1, bytes := 8, zero := [Value.nilFunc], fl := false }
theorem i_52 : TabE Try.prog (52, t_52, false) := ⟨by kernel_rfl, fun h => by simp at h⟩
def t_54 : TyD := { und := TypeDesc.func #[48] #[37, 2] false, size := 1, bytes := 8, zero := [Value.nilFunc], fl := false }
theorem i_54 : TabE Try.prog (54, t_54, false) := ⟨by kernel_rfl, fun h => by simp at h⟩
def t_55 : TyD := { und := TypeDesc.func #[34] #[27] false, size := 1, bytes := 8, zero := [Value.nilFunc], fl := false }
theorem i_55 : TabE Try.prog (55, t_55, false) := ⟨by kernel_rfl, fun h => by simp at h⟩
def t_56 : TyD := { und := TypeDesc.struct #[{ name := "Name", type := 9, offset := 0, embedded := false, tag := "", pkgPath := "", byteOffset := 0 }, { name := "From", type := 2, offset := 1, embedded := false, tag := "", pkgPath := "", byteOffset := 16 }, { name := "Value", type := 48, offset := 2, embedded := false, tag := "", pkgPath := "", byteOffset := 24 }, { name := "Drift", type := 37, offset := 6, embedded := false, tag := "", pkgPath := "", byteOffset := 56 }, { name := "Made", type := 2, offset := 8, embedded := false, tag := "", pkgPath := "", byteOffset := 72 }, { name := "Good", type := 2, offset := 9, embedded := false, tag := "", pkgPath := "", byteOffset := 80 }], size := 10, bytes := 88, zero := [Value.string ⟨#[]⟩, Value.int IntKind.i64 0, Value.int IntKind.i64 0, Value.int IntKind.i64 0, Value.int IntKind.i64 0, Value.int IntKind.i64 0, Value.int IntKind.i64 0, Value.int IntKind.i64 0, Value.int IntKind.i64 0, Value.int IntKind.i64 0], fl := true }
theorem i_56 : TabE Try.prog (56, t_56, true) := ⟨by kernel_rfl, fun _ => by kernel_rfl⟩
def t_57 : TyD := { und := TypeDesc.struct #[{ name := "Name", type := 9, offset := 0, embedded := false, tag := "", pkgPath := "", byteOffset := 0 }, { name := "From", type := 2, offset := 1, embedded := false, tag := "", pkgPath := "", byteOffset := 16 }, { name := "Value", type := 48, offset := 2, embedded := false, tag := "", pkgPath := "", byteOffset := 24 }, { name := "Drift", type := 37, offset := 6, embedded := false, tag := "", pkgPath := "", byteOffset := 56 }, { name := "Made", type := 2, offset := 8, embedded := false, tag := "", pkgPath := "", byteOffset := 72 }, { name := "Good", type := 2, offset := 9, embedded := false, tag := "", pkgPath := "", byteOffset := 80 }], size := 10, bytes := 88, zero := [Value.string ⟨#[]⟩, Value.int IntKind.i64 0, Value.int IntKind.i64 0, Value.int IntKind.i64 0, Value.int IntKind.i64 0, Value.int IntKind.i64 0, Value.int IntKind.i64 0, Value.int IntKind.i64 0, Value.int IntKind.i64 0, Value.int IntKind.i64 0], fl := true }
theorem i_57 : TabE Try.prog (57, t_57, true) := ⟨by kernel_rfl, fun _ => by kernel_rfl⟩
def t_58 : TyD := { und := TypeDesc.func #[27, 2, 2, 2] #[48, 2] false, size := 1, bytes := 8, zero := [Value.nilFunc], fl := false }
theorem i_58 : TabE Try.prog (58, t_58, false) := ⟨by kernel_rfl, fun h => by simp at h⟩
def t_59 : TyD := { und := TypeDesc.func #[27, 2, 2] #[48, 2] false, size := 1, bytes := 8, zero := [Value.nilFunc], fl := false }
theorem i_59 : TabE Try.prog (59, t_59, false) := ⟨by kernel_rfl, fun h => by simp at h⟩
def t_60 : TyD := { und := TypeDesc.func #[48, 48] #[48, 2] false, size := 1, bytes := 8, zero := [Value.nilFunc], fl := false }
theorem i_60 : TabE Try.prog (60, t_60, false) := ⟨by kernel_rfl, fun h => by simp at h⟩
def t_61 : TyD := { und := TypeDesc.func #[27, 2, 2, 2] #[4, 2] false, size := 1, bytes := 8, zero := [Value.nilFunc], fl := false }
theorem i_61 : TabE Try.prog (61, t_61, false) := ⟨by kernel_rfl, fun h => by simp at h⟩
def t_62 : TyD := { und := TypeDesc.func #[27, 2] #[24, 2] false, size := 1, bytes := 8, zero := [Value.nilFunc], fl := false }
theorem i_62 : TabE Try.prog (62, t_62, false) := ⟨by kernel_rfl, fun h => by simp at h⟩
def t_63 : TyD := { und := TypeDesc.func #[27, 2, 2] #[4, 2] false, size := 1, bytes := 8, zero := [Value.nilFunc], fl := false }
theorem i_63 : TabE Try.prog (63, t_63, false) := ⟨by kernel_rfl, fun h => by simp at h⟩
def t_64 : TyD := { und := TypeDesc.func #[24, 2] #[4] false, size := 1, bytes := 8, zero := [Value.nilFunc], fl := false }
theorem i_64 : TabE Try.prog (64, t_64, false) := ⟨by kernel_rfl, fun h => by simp at h⟩
def t_65 : TyD := { und := TypeDesc.func #[27, 2] #[2, 2] false, size := 1, bytes := 8, zero := [Value.nilFunc], fl := false }
theorem i_65 : TabE Try.prog (65, t_65, false) := ⟨by kernel_rfl, fun h => by simp at h⟩
def t_66 : TyD := { und := TypeDesc.func #[71, 3] #[3] false, size := 1, bytes := 8, zero := [Value.nilFunc], fl := false }
theorem i_66 : TabE Try.prog (66, t_66, false) := ⟨by kernel_rfl, fun h => by simp at h⟩
def t_67 : TyD := { und := TypeDesc.struct #[{ name := "P", type := 2, offset := 0, embedded := false, tag := "", pkgPath := "", byteOffset := 0 }, { name := "Q", type := 2, offset := 1, embedded := false, tag := "", pkgPath := "", byteOffset := 8 }], size := 2, bytes := 16, zero := [Value.int IntKind.i64 0, Value.int IntKind.i64 0], fl := true }
theorem i_67 : TabE Try.prog (67, t_67, true) := ⟨by kernel_rfl, fun _ => by kernel_rfl⟩
def t_68 : TyD := { und := TypeDesc.struct #[{ name := "Low", type := 67, offset := 0, embedded := false, tag := "", pkgPath := "", byteOffset := 0 }, { name := "High", type := 67, offset := 2, embedded := false, tag := "", pkgPath := "", byteOffset := 16 }], size := 4, bytes := 32, zero := [Value.int IntKind.i64 0, Value.int IntKind.i64 0, Value.int IntKind.i64 0, Value.int IntKind.i64 0], fl := true }
theorem i_68 : TabE Try.prog (68, t_68, true) := ⟨by kernel_rfl, fun _ => by kernel_rfl⟩
def t_69 : TyD := { und := TypeDesc.struct #[{ name := "Low", type := 67, offset := 0, embedded := false, tag := "", pkgPath := "", byteOffset := 0 }, { name := "High", type := 67, offset := 2, embedded := false, tag := "", pkgPath := "", byteOffset := 16 }], size := 4, bytes := 32, zero := [Value.int IntKind.i64 0, Value.int IntKind.i64 0, Value.int IntKind.i64 0, Value.int IntKind.i64 0], fl := true }
theorem i_69 : TabE Try.prog (69, t_69, true) := ⟨by kernel_rfl, fun _ => by kernel_rfl⟩
def t_70 : TyD := { und := TypeDesc.struct #[{ name := "Name", type := 9, offset := 0, embedded := false, tag := "", pkgPath := "", byteOffset := 0 }, { name := "From", type := 2, offset := 1, embedded := false, tag := "", pkgPath := "", byteOffset := 16 }, { name := "Value", type := 69, offset := 2, embedded := false, tag := "", pkgPath := "", byteOffset := 24 }, { name := "Drift", type := 67, offset := 6, embedded := false, tag := "", pkgPath := "", byteOffset := 56 }, { name := "Made", type := 2, offset := 8, embedded := false, tag := "", pkgPath := "", byteOffset := 72 }, { name := "Good", type := 2, offset := 9, embedded := false, tag := "", pkgPath := "", byteOffset := 80 }], size := 10, bytes := 88, zero := [Value.string ⟨#[]⟩, Value.int IntKind.i64 0, Value.int IntKind.i64 0, Value.int IntKind.i64 0, Value.int IntKind.i64 0, Value.int IntKind.i64 0, Value.int IntKind.i64 0, Value.int IntKind.i64 0, Value.int IntKind.i64 0, Value.int IntKind.i64 0], fl := true }
theorem i_70 : TabE Try.prog (70, t_70, true) := ⟨by kernel_rfl, fun _ => by kernel_rfl⟩
def t_71 : TyD := { und := TypeDesc.struct #[{ name := "Name", type := 9, offset := 0, embedded := false, tag := "", pkgPath := "", byteOffset := 0 }, { name := "From", type := 2, offset := 1, embedded := false, tag := "", pkgPath := "", byteOffset := 16 }, { name := "Value", type := 69, offset := 2, embedded := false, tag := "", pkgPath := "", byteOffset := 24 }, { name := "Drift", type := 67, offset := 6, embedded := false, tag := "", pkgPath := "", byteOffset := 56 }, { name := "Made", type := 2, offset := 8, embedded := false, tag := "", pkgPath := "", byteOffset := 72 }, { name := "Good", type := 2, offset := 9, embedded := false, tag := "", pkgPath := "", byteOffset := 80 }], size := 10, bytes := 88, zero := [Value.string ⟨#[]⟩, Value.int IntKind.i64 0, Value.int IntKind.i64 0, Value.int IntKind.i64 0, Value.int IntKind.i64 0, Value.int IntKind.i64 0, Value.int IntKind.i64 0, Value.int IntKind.i64 0, Value.int IntKind.i64 0, Value.int IntKind.i64 0], fl := true }
theorem i_71 : TabE Try.prog (71, t_71, true) := ⟨by kernel_rfl, fun _ => by kernel_rfl⟩
def t_72 : TyD := { und := TypeDesc.func #[27] #[4] false, size := 1, bytes := 8, zero := [Value.nilFunc], fl := false }
theorem i_72 : TabE Try.prog (72, t_72, false) := ⟨by kernel_rfl, fun h => by simp at h⟩
def t_73 : TyD := { und := TypeDesc.func #[2] #[4] false, size := 1, bytes := 8, zero := [Value.nilFunc], fl := false }
theorem i_73 : TabE Try.prog (73, t_73, false) := ⟨by kernel_rfl, fun h => by simp at h⟩
def t_74 : TyD := { und := TypeDesc.func #[71] #[57] false, size := 1, bytes := 8, zero := [Value.nilFunc], fl := false }
theorem i_74 : TabE Try.prog (74, t_74, false) := ⟨by kernel_rfl, fun h => by simp at h⟩
def t_75 : TyD := { und := TypeDesc.func #[27, 24, 24] #[2] true, size := 1, bytes := 8, zero := [Value.nilFunc], fl := false }
theorem i_75 : TabE Try.prog (75, t_75, false) := ⟨by kernel_rfl, fun h => by simp at h⟩
def t_76 : TyD := { und := TypeDesc.func #[2] #[2] false, size := 1, bytes := 8, zero := [Value.nilFunc], fl := false }
theorem i_76 : TabE Try.prog (76, t_76, false) := ⟨by kernel_rfl, fun h => by simp at h⟩
def t_77 : TyD := { und := TypeDesc.func #[27, 73] #[24] false, size := 1, bytes := 8, zero := [Value.nilFunc], fl := false }
theorem i_77 : TabE Try.prog (77, t_77, false) := ⟨by kernel_rfl, fun h => by simp at h⟩
def t_78 : TyD := { und := TypeDesc.func #[2, 2, 2] #[4] false, size := 1, bytes := 8, zero := [Value.nilFunc], fl := false }
theorem i_78 : TabE Try.prog (78, t_78, false) := ⟨by kernel_rfl, fun h => by simp at h⟩
def t_79 : TyD := { und := TypeDesc.func #[24, 80] #[] false, size := 1, bytes := 8, zero := [Value.nilFunc], fl := false }
theorem i_79 : TabE Try.prog (79, t_79, false) := ⟨by kernel_rfl, fun h => by simp at h⟩
def t_80 : TyD := { und := TypeDesc.func #[2, 2] #[3] false, size := 1, bytes := 8, zero := [Value.nilFunc], fl := false }
theorem i_80 : TabE Try.prog (80, t_80, false) := ⟨by kernel_rfl, fun h => by simp at h⟩
def t_81 : TyD := { und := TypeDesc.func #[57, 57] #[4] false, size := 1, bytes := 8, zero := [Value.nilFunc], fl := false }
theorem i_81 : TabE Try.prog (81, t_81, false) := ⟨by kernel_rfl, fun h => by simp at h⟩
def t_82 : TyD := { und := TypeDesc.func #[3] #[9] false, size := 1, bytes := 8, zero := [Value.nilFunc], fl := false }
theorem i_82 : TabE Try.prog (82, t_82, false) := ⟨by kernel_rfl, fun h => by simp at h⟩
def t_83 : TyD := { und := TypeDesc.pointer 137, size := 1, bytes := 8, zero := [Value.pointer none], fl := false }
theorem i_83 : TabE Try.prog (83, t_83, false) := ⟨by kernel_rfl, fun h => by simp at h⟩
def t_84 : TyD := { und := TypeDesc.func #[34] #[83] false, size := 1, bytes := 8, zero := [Value.nilFunc], fl := false }
theorem i_84 : TabE Try.prog (84, t_84, false) := ⟨by kernel_rfl, fun h => by simp at h⟩
def t_85 : TyD := { und := TypeDesc.func #[2, 2] #[37, 2] false, size := 1, bytes := 8, zero := [Value.nilFunc], fl := false }
theorem i_85 : TabE Try.prog (85, t_85, false) := ⟨by kernel_rfl, fun h => by simp at h⟩
def t_86 : TyD := { und := TypeDesc.func #[24] #[2] false, size := 1, bytes := 8, zero := [Value.nilFunc], fl := false }
theorem i_86 : TabE Try.prog (86, t_86, false) := ⟨by kernel_rfl, fun h => by simp at h⟩
def t_87 : TyD := { und := TypeDesc.func #[83] #[43] false, size := 1, bytes := 8, zero := [Value.nilFunc], fl := false }
theorem i_87 : TabE Try.prog (87, t_87, false) := ⟨by kernel_rfl, fun h => by simp at h⟩
def t_88 : TyD := { und := TypeDesc.func #[89] #[4] false, size := 1, bytes := 8, zero := [Value.nilFunc], fl := false }
theorem i_88 : TabE Try.prog (88, t_88, false) := ⟨by kernel_rfl, fun h => by simp at h⟩
def t_89 : TyD := { und := TypeDesc.pointer 43, size := 1, bytes := 8, zero := [Value.pointer none], fl := false }
theorem i_89 : TabE Try.prog (89, t_89, false) := ⟨by kernel_rfl, fun h => by simp at h⟩
def t_90 : TyD := { und := TypeDesc.func #[37] #[4] false, size := 1, bytes := 8, zero := [Value.nilFunc], fl := false }
theorem i_90 : TabE Try.prog (90, t_90, false) := ⟨by kernel_rfl, fun h => by simp at h⟩
def t_91 : TyD := { und := TypeDesc.func #[93, 37] #[2] false, size := 1, bytes := 8, zero := [Value.nilFunc], fl := false }
theorem i_91 : TabE Try.prog (91, t_91, false) := ⟨by kernel_rfl, fun h => by simp at h⟩
def t_92 : TyD := { und := TypeDesc.struct #[{ name := "Bias", type := 41, offset := 0, embedded := false, tag := "", pkgPath := "", byteOffset := 0 }, { name := "Unit", type := 41, offset := 1, embedded := false, tag := "", pkgPath := "", byteOffset := 2 }, { name := "Up", type := 4, offset := 2, embedded := false, tag := "", pkgPath := "", byteOffset := 4 }], size := 3, bytes := 6, zero := [Value.int IntKind.i16 0, Value.int IntKind.i16 0, Value.bool false], fl := true }
theorem i_92 : TabE Try.prog (92, t_92, true) := ⟨by kernel_rfl, fun _ => by kernel_rfl⟩
def t_93 : TyD := { und := TypeDesc.struct #[{ name := "Bias", type := 41, offset := 0, embedded := false, tag := "", pkgPath := "", byteOffset := 0 }, { name := "Unit", type := 41, offset := 1, embedded := false, tag := "", pkgPath := "", byteOffset := 2 }, { name := "Up", type := 4, offset := 2, embedded := false, tag := "", pkgPath := "", byteOffset := 4 }], size := 3, bytes := 6, zero := [Value.int IntKind.i16 0, Value.int IntKind.i16 0, Value.bool false], fl := true }
theorem i_93 : TabE Try.prog (93, t_93, true) := ⟨by kernel_rfl, fun _ => by kernel_rfl⟩
def t_94 : TyD := { und := TypeDesc.func #[89] #[93] false, size := 1, bytes := 8, zero := [Value.nilFunc], fl := false }
theorem i_94 : TabE Try.prog (94, t_94, false) := ⟨by kernel_rfl, fun h => by simp at h⟩
def t_95 : TyD := { und := TypeDesc.func #[39] #[4] false, size := 1, bytes := 8, zero := [Value.nilFunc], fl := false }
theorem i_95 : TabE Try.prog (95, t_95, false) := ⟨by kernel_rfl, fun h => by simp at h⟩
def t_96 : TyD := { und := TypeDesc.func #[24] #[4] false, size := 1, bytes := 8, zero := [Value.nilFunc], fl := false }
theorem i_96 : TabE Try.prog (96, t_96, false) := ⟨by kernel_rfl, fun h => by simp at h⟩
def t_97 : TyD := { und := TypeDesc.pointer 99, size := 1, bytes := 8, zero := [Value.pointer none], fl := false }
theorem i_97 : TabE Try.prog (97, t_97, false) := ⟨by kernel_rfl, fun h => by simp at h⟩
def t_98 : TyD := { und := TypeDesc.struct #[{ name := "bad", type := 4, offset := 0, embedded := false, tag := "", pkgPath := "loop.example/g01254/impl", byteOffset := 0 }], size := 1, bytes := 1, zero := [Value.bool false], fl := true }
theorem i_98 : TabE Try.prog (98, t_98, true) := ⟨by kernel_rfl, fun _ => by kernel_rfl⟩
def t_99 : TyD := { und := TypeDesc.struct #[{ name := "bad", type := 4, offset := 0, embedded := false, tag := "", pkgPath := "loop.example/g01254/impl", byteOffset := 0 }], size := 1, bytes := 1, zero := [Value.bool false], fl := true }
theorem i_99 : TabE Try.prog (99, t_99, true) := ⟨by kernel_rfl, fun _ => by kernel_rfl⟩
def t_100 : TyD := { und := TypeDesc.slice 48, size := 1, bytes := 24, zero := [Value.slice none 0 0], fl := false }
theorem i_100 : TabE Try.prog (100, t_100, false) := ⟨by kernel_rfl, fun h => by simp at h⟩
def t_102 : TyD := { und := TypeDesc.func #[43, 2] #[48, 4] false, size := 1, bytes := 8, zero := [Value.nilFunc], fl := false }
theorem i_102 : TabE Try.prog (102, t_102, false) := ⟨by kernel_rfl, fun h => by simp at h⟩
def t_103 : TyD := { und := TypeDesc.func #[100] #[48, 2] false, size := 1, bytes := 8, zero := [Value.nilFunc], fl := false }
theorem i_103 : TabE Try.prog (103, t_103, false) := ⟨by kernel_rfl, fun h => by simp at h⟩
def t_104 : TyD := { und := TypeDesc.func #[89, 2] #[48] false, size := 1, bytes := 8, zero := [Value.nilFunc], fl := false }
theorem i_104 : TabE Try.prog (104, t_104, false) := ⟨by kernel_rfl, fun h => by simp at h⟩
def t_105 : TyD := { und := TypeDesc.func #[48, 48] #[48, 4] false, size := 1, bytes := 8, zero := [Value.nilFunc], fl := false }
theorem i_105 : TabE Try.prog (105, t_105, false) := ⟨by kernel_rfl, fun h => by simp at h⟩
def t_106 : TyD := { und := TypeDesc.func #[48] #[4] false, size := 1, bytes := 8, zero := [Value.nilFunc], fl := false }
theorem i_106 : TabE Try.prog (106, t_106, false) := ⟨by kernel_rfl, fun h => by simp at h⟩
def t_107 : TyD := { und := TypeDesc.func #[37, 37] #[2] false, size := 1, bytes := 8, zero := [Value.nilFunc], fl := false }
theorem i_107 : TabE Try.prog (107, t_107, false) := ⟨by kernel_rfl, fun h => by simp at h⟩
def t_108 : TyD := { und := TypeDesc.func #[37] #[37, 2] false, size := 1, bytes := 8, zero := [Value.nilFunc], fl := false }
theorem i_108 : TabE Try.prog (108, t_108, false) := ⟨by kernel_rfl, fun h => by simp at h⟩
def t_109 : TyD := { und := TypeDesc.func #[37, 37] #[37] false, size := 1, bytes := 8, zero := [Value.nilFunc], fl := false }
theorem i_109 : TabE Try.prog (109, t_109, false) := ⟨by kernel_rfl, fun h => by simp at h⟩
def t_110 : TyD := { und := TypeDesc.func #[83] #[27] false, size := 1, bytes := 8, zero := [Value.nilFunc], fl := false }
theorem i_110 : TabE Try.prog (110, t_110, false) := ⟨by kernel_rfl, fun h => by simp at h⟩
def t_111 : TyD := { und := TypeDesc.func #[27, 2] #[24] false, size := 1, bytes := 8, zero := [Value.nilFunc], fl := false }
theorem i_111 : TabE Try.prog (111, t_111, false) := ⟨by kernel_rfl, fun h => by simp at h⟩
def t_112 : TyD := { und := TypeDesc.func #[] #[48] false, size := 1, bytes := 8, zero := [Value.nilFunc], fl := false }
theorem i_112 : TabE Try.prog (112, t_112, false) := ⟨by kernel_rfl, fun h => by simp at h⟩
def t_113 : TyD := { und := TypeDesc.func #[48] #[48, 2] false, size := 1, bytes := 8, zero := [Value.nilFunc], fl := false }
theorem i_113 : TabE Try.prog (113, t_113, false) := ⟨by kernel_rfl, fun h => by simp at h⟩
def t_114 : TyD := { und := TypeDesc.func #[48, 48] #[48] false, size := 1, bytes := 8, zero := [Value.nilFunc], fl := false }
theorem i_114 : TabE Try.prog (114, t_114, false) := ⟨by kernel_rfl, fun h => by simp at h⟩
def t_115 : TyD := { und := TypeDesc.func #[27, 2, 2] #[48] false, size := 1, bytes := 8, zero := [Value.nilFunc], fl := false }
theorem i_115 : TabE Try.prog (115, t_115, false) := ⟨by kernel_rfl, fun h => by simp at h⟩
def t_116 : TyD := { und := TypeDesc.func #[27, 24, 2, 48] #[48] false, size := 1, bytes := 8, zero := [Value.nilFunc], fl := false }
theorem i_116 : TabE Try.prog (116, t_116, false) := ⟨by kernel_rfl, fun h => by simp at h⟩
def t_117 : TyD := { und := TypeDesc.func #[24] #[48, 2] false, size := 1, bytes := 8, zero := [Value.nilFunc], fl := false }
theorem i_117 : TabE Try.prog (117, t_117, false) := ⟨by kernel_rfl, fun h => by simp at h⟩
def t_118 : TyD := { und := TypeDesc.func #[48, 37] #[48] false, size := 1, bytes := 8, zero := [Value.nilFunc], fl := false }
theorem i_118 : TabE Try.prog (118, t_118, false) := ⟨by kernel_rfl, fun h => by simp at h⟩
def t_119 : TyD := { und := TypeDesc.func #[2] #[37] false, size := 1, bytes := 8, zero := [Value.nilFunc], fl := false }
theorem i_119 : TabE Try.prog (119, t_119, false) := ⟨by kernel_rfl, fun h => by simp at h⟩
def t_120 : TyD := { und := TypeDesc.func #[27, 2, 2, 2] #[2] false, size := 1, bytes := 8, zero := [Value.nilFunc], fl := false }
theorem i_120 : TabE Try.prog (120, t_120, false) := ⟨by kernel_rfl, fun h => by simp at h⟩
def t_121 : TyD := { und := TypeDesc.func #[27, 2, 2] #[2] false, size := 1, bytes := 8, zero := [Value.nilFunc], fl := false }
theorem i_121 : TabE Try.prog (121, t_121, false) := ⟨by kernel_rfl, fun h => by simp at h⟩
def t_122 : TyD := { und := TypeDesc.func #[100] #[4] true, size := 1, bytes := 8, zero := [Value.nilFunc], fl := false }
theorem i_122 : TabE Try.prog (122, t_122, false) := ⟨by kernel_rfl, fun h => by simp at h⟩
def t_123 : TyD := { und := TypeDesc.func #[27, 2, 2] #[24] false, size := 1, bytes := 8, zero := [Value.nilFunc], fl := false }
theorem i_123 : TabE Try.prog (123, t_123, false) := ⟨by kernel_rfl, fun h => by simp at h⟩
def t_124 : TyD := { und := TypeDesc.func #[24, 2] #[3] false, size := 1, bytes := 8, zero := [Value.nilFunc], fl := false }
theorem i_124 : TabE Try.prog (124, t_124, false) := ⟨by kernel_rfl, fun h => by simp at h⟩
def t_125 : TyD := { und := TypeDesc.func #[126, 2] #[4] false, size := 1, bytes := 8, zero := [Value.nilFunc], fl := false }
theorem i_125 : TabE Try.prog (125, t_125, false) := ⟨by kernel_rfl, fun h => by simp at h⟩
def t_126 : TyD := { und := TypeDesc.pointer 57, size := 1, bytes := 8, zero := [Value.pointer none], fl := false }
theorem i_126 : TabE Try.prog (126, t_126, false) := ⟨by kernel_rfl, fun h => by simp at h⟩
def t_127 : TyD := { und := TypeDesc.func #[9] #[4] false, size := 1, bytes := 8, zero := [Value.nilFunc], fl := false }
theorem i_127 : TabE Try.prog (127, t_127, false) := ⟨by kernel_rfl, fun h => by simp at h⟩
def t_128 : TyD := { und := TypeDesc.func #[27, 126] #[4] false, size := 1, bytes := 8, zero := [Value.nilFunc], fl := false }
theorem i_128 : TabE Try.prog (128, t_128, false) := ⟨by kernel_rfl, fun h => by simp at h⟩
def t_129 : TyD := { und := TypeDesc.func #[69] #[48] false, size := 1, bytes := 8, zero := [Value.nilFunc], fl := false }
theorem i_129 : TabE Try.prog (129, t_129, false) := ⟨by kernel_rfl, fun h => by simp at h⟩
def t_130 : TyD := { und := TypeDesc.func #[67] #[37] false, size := 1, bytes := 8, zero := [Value.nilFunc], fl := false }
theorem i_130 : TabE Try.prog (130, t_130, false) := ⟨by kernel_rfl, fun h => by simp at h⟩
def t_131 : TyD := { und := TypeDesc.func #[24, 73] #[4] false, size := 1, bytes := 8, zero := [Value.nilFunc], fl := false }
theorem i_131 : TabE Try.prog (131, t_131, false) := ⟨by kernel_rfl, fun h => by simp at h⟩
def t_132 : TyD := { und := TypeDesc.func #[24, 3, 80] #[] false, size := 1, bytes := 8, zero := [Value.nilFunc], fl := false }
theorem i_132 : TabE Try.prog (132, t_132, false) := ⟨by kernel_rfl, fun h => by simp at h⟩
def t_133 : TyD := { und := TypeDesc.func #[48, 48] #[4] false, size := 1, bytes := 8, zero := [Value.nilFunc], fl := false }
theorem i_133 : TabE Try.prog (133, t_133, false) := ⟨by kernel_rfl, fun h => by simp at h⟩
def t_134 : TyD := { und := TypeDesc.func #[37, 37] #[4] false, size := 1, bytes := 8, zero := [Value.nilFunc], fl := false }
theorem i_134 : TabE Try.prog (134, t_134, false) := ⟨by kernel_rfl, fun h => by simp at h⟩
def t_135 : TyD := { und := TypeDesc.int IntKind.u64, size := 1, bytes := 8, zero := [Value.int IntKind.u64 0], fl := true }
theorem i_135 : TabE Try.prog (135, t_135, false) := ⟨by kernel_rfl, fun h => by simp at h⟩
def t_136 : TyD := { und := TypeDesc.struct #[{ name := "code", type := 34, offset := 0, embedded := false, tag := "", pkgPath := "loop.example/g01254/spec", byteOffset := 0 }, { name := "at", type := 3, offset := 1, embedded := false, tag := "", pkgPath := "loop.example/g01254/spec", byteOffset := 24 }, { name := "seed", type := 135, offset := 2, embedded := false, tag := "", pkgPath := "loop.example/g01254/spec", byteOffset := 32 }], size := 3, bytes := 40, zero := [Value.slice none 0 0, Value.int IntKind.i64 0, Value.int IntKind.u64 0], fl := false }
theorem i_136 : TabE Try.prog (136, t_136, true) := ⟨by kernel_rfl, fun _ => by kernel_rfl⟩
def t_137 : TyD := { und := TypeDesc.struct #[{ name := "code", type := 34, offset := 0, embedded := false, tag := "", pkgPath := "loop.example/g01254/spec", byteOffset := 0 }, { name := "at", type := 3, offset := 1, embedded := false, tag := "", pkgPath := "loop.example/g01254/spec", byteOffset := 24 }, { name := "seed", type := 135, offset := 2, embedded := false, tag := "", pkgPath := "loop.example/g01254/spec", byteOffset := 32 }], size := 3, bytes := 40, zero := [Value.slice none 0 0, Value.int IntKind.i64 0, Value.int IntKind.u64 0], fl := false }
theorem i_137 : TabE Try.prog (137, t_137, true) := ⟨by kernel_rfl, fun _ => by kernel_rfl⟩
def t_138 : TyD := { und := TypeDesc.func #[] #[2] false, size := 1, bytes := 8, zero := [Value.nilFunc], fl := false }
theorem i_138 : TabE Try.prog (138, t_138, false) := ⟨by kernel_rfl, fun h => by simp at h⟩
def t_139 : TyD := { und := TypeDesc.func #[2, 2] #[2] false, size := 1, bytes := 8, zero := [Value.nilFunc], fl := false }
theorem i_139 : TabE Try.prog (139, t_139, false) := ⟨by kernel_rfl, fun h => by simp at h⟩
def t_140 : TyD := { und := TypeDesc.func #[141] #[9] false, size := 1, bytes := 8, zero := [Value.nilFunc], fl := false }
theorem i_140 : TabE Try.prog (140, t_140, false) := ⟨by kernel_rfl, fun h => by simp at h⟩
def t_141 : TyD := { und := TypeDesc.slice 9, size := 1, bytes := 24, zero := [Value.slice none 0 0], fl := false }
theorem i_141 : TabE Try.prog (141, t_141, false) := ⟨by kernel_rfl, fun h => by simp at h⟩
def t_142 : TyD := { und := TypeDesc.func #[93] #[4] false, size := 1, bytes := 8, zero := [Value.nilFunc], fl := false }
theorem i_142 : TabE Try.prog (142, t_142, false) := ⟨by kernel_rfl, fun h => by simp at h⟩
def t_143 : TyD := { und := TypeDesc.func #[39, 144] #[4] false, size := 1, bytes := 8, zero := [Value.nilFunc], fl := false }
theorem i_143 : TabE Try.prog (143, t_143, false) := ⟨by kernel_rfl, fun h => by simp at h⟩
def t_144 : TyD := { und := TypeDesc.func #[43] #[4] false, size := 1, bytes := 8, zero := [Value.nilFunc], fl := false }
theorem i_144 : TabE Try.prog (144, t_144, false) := ⟨by kernel_rfl, fun h => by simp at h⟩
def t_145 : TyD := { und := TypeDesc.func #[3] #[4] false, size := 1, bytes := 8, zero := [Value.nilFunc], fl := false }
theorem i_145 : TabE Try.prog (145, t_145, false) := ⟨by kernel_rfl, fun h => by simp at h⟩
def t_146 : TyD := { und := TypeDesc.func #[168] #[4] true, size := 1, bytes := 8, zero := [Value.nilFunc], fl := false }
theorem i_146 : TabE Try.prog (146, t_146, false) := ⟨by kernel_rfl, fun h => by simp at h⟩
def t_147 : TyD := { und := TypeDesc.func #[2, 2] #[37] false, size := 1, bytes := 8, zero := [Value.nilFunc], fl := false }
theorem i_147 : TabE Try.prog (147, t_147, false) := ⟨by kernel_rfl, fun h => by simp at h⟩
def t_148 : TyD := { und := TypeDesc.func #[] #[141] false, size := 1, bytes := 8, zero := [Value.nilFunc], fl := false }
theorem i_148 : TabE Try.prog (148, t_148, false) := ⟨by kernel_rfl, fun h => by simp at h⟩
def t_149 : TyD := { und := TypeDesc.func #[83, 2] #[48] false, size := 1, bytes := 8, zero := [Value.nilFunc], fl := false }
theorem i_149 : TabE Try.prog (149, t_149, false) := ⟨by kernel_rfl, fun h => by simp at h⟩
def t_150 : TyD := { und := TypeDesc.func #[83, 2] #[37] false, size := 1, bytes := 8, zero := [Value.nilFunc], fl := false }
theorem i_150 : TabE Try.prog (150, t_150, false) := ⟨by kernel_rfl, fun h => by simp at h⟩
def t_151 : TyD := { und := TypeDesc.func #[37] #[37] false, size := 1, bytes := 8, zero := [Value.nilFunc], fl := false }
theorem i_151 : TabE Try.prog (151, t_151, false) := ⟨by kernel_rfl, fun h => by simp at h⟩
def t_152 : TyD := { und := TypeDesc.func #[] #[37] false, size := 1, bytes := 8, zero := [Value.nilFunc], fl := false }
theorem i_152 : TabE Try.prog (152, t_152, false) := ⟨by kernel_rfl, fun h => by simp at h⟩
def t_153 : TyD := { und := TypeDesc.func #[27, 24, 48, 2] #[48, 2] false, size := 1, bytes := 8, zero := [Value.nilFunc], fl := false }
theorem i_153 : TabE Try.prog (153, t_153, false) := ⟨by kernel_rfl, fun h => by simp at h⟩
def t_154 : TyD := { und := TypeDesc.func #[27, 24, 2] #[2] false, size := 1, bytes := 8, zero := [Value.nilFunc], fl := false }
theorem i_154 : TabE Try.prog (154, t_154, false) := ⟨by kernel_rfl, fun h => by simp at h⟩
def t_155 : TyD := { und := TypeDesc.func #[48, 37, 2] #[48, 2] false, size := 1, bytes := 8, zero := [Value.nilFunc], fl := false }
theorem i_155 : TabE Try.prog (155, t_155, false) := ⟨by kernel_rfl, fun h => by simp at h⟩
def t_156 : TyD := { und := TypeDesc.func #[100, 106] #[4] false, size := 1, bytes := 8, zero := [Value.nilFunc], fl := false }
theorem i_156 : TabE Try.prog (156, t_156, false) := ⟨by kernel_rfl, fun h => by simp at h⟩
def t_157 : TyD := { und := TypeDesc.slice 4, size := 1, bytes := 24, zero := [Value.slice none 0 0], fl := false }
theorem i_157 : TabE Try.prog (157, t_157, false) := ⟨by kernel_rfl, fun h => by simp at h⟩
def t_158 : TyD := { und := TypeDesc.func #[159] #[4] false, size := 1, bytes := 8, zero := [Value.nilFunc], fl := false }
theorem i_158 : TabE Try.prog (158, t_158, false) := ⟨by kernel_rfl, fun h => by simp at h⟩
def t_159 : TyD := { und := TypeDesc.pointer 48, size := 1, bytes := 8, zero := [Value.pointer none], fl := false }
theorem i_159 : TabE Try.prog (159, t_159, false) := ⟨by kernel_rfl, fun h => by simp at h⟩
def t_160 : TyD := { und := TypeDesc.func #[27, 161] #[4] false, size := 1, bytes := 8, zero := [Value.nilFunc], fl := false }
theorem i_160 : TabE Try.prog (160, t_160, false) := ⟨by kernel_rfl, fun h => by simp at h⟩
def t_161 : TyD := { und := TypeDesc.func #[57] #[4] false, size := 1, bytes := 8, zero := [Value.nilFunc], fl := false }
theorem i_161 : TabE Try.prog (161, t_161, false) := ⟨by kernel_rfl, fun h => by simp at h⟩
def t_162 : TyD := { und := TypeDesc.func #[24, 73] #[3] false, size := 1, bytes := 8, zero := [Value.nilFunc], fl := false }
theorem i_162 : TabE Try.prog (162, t_162, false) := ⟨by kernel_rfl, fun h => by simp at h⟩
def t_163 : TyD := { und := TypeDesc.func #[24, 3, 3, 80] #[] false, size := 1, bytes := 8, zero := [Value.nilFunc], fl := false }
theorem i_163 : TabE Try.prog (163, t_163, false) := ⟨by kernel_rfl, fun h => by simp at h⟩
def t_164 : TyD := { und := TypeDesc.func #[24, 3, 3, 3, 80] #[] false, size := 1, bytes := 8, zero := [Value.nilFunc], fl := false }
theorem i_164 : TabE Try.prog (164, t_164, false) := ⟨by kernel_rfl, fun h => by simp at h⟩
def t_165 : TyD := { und := TypeDesc.int IntKind.u64, size := 1, bytes := 8, zero := [Value.int IntKind.u64 0], fl := true }
theorem i_165 : TabE Try.prog (165, t_165, false) := ⟨by kernel_rfl, fun h => by simp at h⟩
def t_166 : TyD := { und := TypeDesc.func #[39, 144] #[3] false, size := 1, bytes := 8, zero := [Value.nilFunc], fl := false }
theorem i_166 : TabE Try.prog (166, t_166, false) := ⟨by kernel_rfl, fun h => by simp at h⟩
def t_167 : TyD := { und := TypeDesc.func #[] #[93] false, size := 1, bytes := 8, zero := [Value.nilFunc], fl := false }
theorem i_167 : TabE Try.prog (167, t_167, false) := ⟨by kernel_rfl, fun h => by simp at h⟩
def t_168 : TyD := { und := TypeDesc.slice 37, size := 1, bytes := 24, zero := [Value.slice none 0 0], fl := false }
theorem i_168 : TabE Try.prog (168, t_168, false) := ⟨by kernel_rfl, fun h => by simp at h⟩
def t_169 : TyD := { und := TypeDesc.func #[168, 90] #[4] false, size := 1, bytes := 8, zero := [Value.nilFunc], fl := false }
theorem i_169 : TabE Try.prog (169, t_169, false) := ⟨by kernel_rfl, fun h => by simp at h⟩
def t_171 : TyD := { und := TypeDesc.func #[2, 2] #[37, 4] false, size := 1, bytes := 8, zero := [Value.nilFunc], fl := false }
theorem i_171 : TabE Try.prog (171, t_171, false) := ⟨by kernel_rfl, fun h => by simp at h⟩
def t_172 : TyD := { und := TypeDesc.func #[37, 37] #[37, 2] false, size := 1, bytes := 8, zero := [Value.nilFunc], fl := false }
theorem i_172 : TabE Try.prog (172, t_172, false) := ⟨by kernel_rfl, fun h => by simp at h⟩
def t_173 : TyD := { und := TypeDesc.func #[100, 106] #[3] false, size := 1, bytes := 8, zero := [Value.nilFunc], fl := false }
theorem i_173 : TabE Try.prog (173, t_173, false) := ⟨by kernel_rfl, fun h => by simp at h⟩
def t_174 : TyD := { und := TypeDesc.func #[27, 161] #[3] false, size := 1, bytes := 8, zero := [Value.nilFunc], fl := false }
theorem i_174 : TabE Try.prog (174, t_174, false) := ⟨by kernel_rfl, fun h => by simp at h⟩
def t_175 : TyD := { und := TypeDesc.func #[168, 90] #[3] false, size := 1, bytes := 8, zero := [Value.nilFunc], fl := false }
theorem i_175 : TabE Try.prog (175, t_175, false) := ⟨by kernel_rfl, fun h => by simp at h⟩
def t_176 : TyD := { und := TypeDesc.func #[37, 2, 37, 2] #[48, 2] false, size := 1, bytes := 8, zero := [Value.nilFunc], fl := false }
theorem i_176 : TabE Try.prog (176, t_176, false) := ⟨by kernel_rfl, fun h => by simp at h⟩
def t_177 : TyD := { und := TypeDesc.func #[] #[9] false, size := 1, bytes := 8, zero := [Value.nilFunc], fl := false }
theorem i_177 : TabE Try.prog (177, t_177, false) := ⟨by kernel_rfl, fun h => by simp at h⟩
def t_178 : TyD := { und := TypeDesc.struct #[{ name := "_interface", type := 17, offset := 0, embedded := false, tag := "", pkgPath := "runtime", byteOffset := 0 }, { name := "concrete", type := 17, offset := 1, embedded := false, tag := "", pkgPath := "runtime", byteOffset := 8 }, { name := "asserted", type := 17, offset := 2, embedded := false, tag := "", pkgPath := "runtime", byteOffset := 16 }, { name := "missingMethod", type := 9, offset := 3, embedded := false, tag := "", pkgPath := "runtime", byteOffset := 24 }], size := 4, bytes := 40, zero := [Value.pointer none, Value.pointer none, Value.pointer none, Value.string ⟨#[]⟩], fl := false }
theorem i_178 : TabE Try.prog (178, t_178, false) := ⟨by kernel_rfl, fun h => by simp at h⟩
def t_179 : TyD := { und := TypeDesc.struct #[{ name := "_interface", type := 17, offset := 0, embedded := false, tag := "", pkgPath := "runtime", byteOffset := 0 }, { name := "concrete", type := 17, offset := 1, embedded := false, tag := "", pkgPath := "runtime", byteOffset := 8 }, { name := "asserted", type := 17, offset := 2, embedded := false, tag := "", pkgPath := "runtime", byteOffset := 16 }, { name := "missingMethod", type := 9, offset := 3, embedded := false, tag := "", pkgPath := "runtime", byteOffset := 24 }], size := 4, bytes := 40, zero := [Value.pointer none, Value.pointer none, Value.pointer none, Value.string ⟨#[]⟩], fl := false }
theorem i_179 : TabE Try.prog (179, t_179, false) := ⟨by kernel_rfl, fun h => by simp at h⟩
def t_180 : TyD := { und := TypeDesc.array 0 16, size := 0, bytes := 0, zero := [], fl := false }
theorem i_180 : TabE Try.prog (180, t_180, false) := ⟨by kernel_rfl, fun h => by simp at h⟩
def t_181 : TyD := { und := TypeDesc.struct #[{ name := "_", type := 180, offset := 0, embedded := false, tag := "", pkgPath := "runtime", byteOffset := 0 }], size := 0, bytes := 0, zero := [], fl := false }
theorem i_181 : TabE Try.prog (181, t_181, false) := ⟨by kernel_rfl, fun h => by simp at h⟩
def t_182 : TyD := { und := TypeDesc.struct #[{ name := "_", type := 180, offset := 0, embedded := false, tag := "", pkgPath := "runtime", byteOffset := 0 }], size := 0, bytes := 0, zero := [], fl := false }
theorem i_182 : TabE Try.prog (182, t_182, false) := ⟨by kernel_rfl, fun h => by simp at h⟩
def t_183 : TyD := { und := TypeDesc.func #[] #[3] false, size := 1, bytes := 8, zero := [Value.nilFunc], fl := false }
theorem i_183 : TabE Try.prog (183, t_183, false) := ⟨by kernel_rfl, fun h => by simp at h⟩
def t_184 : TyD := { und := TypeDesc.int IntKind.u32, size := 1, bytes := 4, zero := [Value.int IntKind.u32 0], fl := true }
theorem i_184 : TabE Try.prog (184, t_184, false) := ⟨by kernel_rfl, fun h => by simp at h⟩
def t_185 : TyD := { und := TypeDesc.int IntKind.u8, size := 1, bytes := 1, zero := [Value.int IntKind.u8 0], fl := true }
theorem i_185 : TabE Try.prog (185, t_185, false) := ⟨by kernel_rfl, fun h => by simp at h⟩
def t_186 : TyD := { und := TypeDesc.int IntKind.u8, size := 1, bytes := 1, zero := [Value.int IntKind.u8 0], fl := true }
theorem i_186 : TabE Try.prog (186, t_186, false) := ⟨by kernel_rfl, fun h => by simp at h⟩
def t_187 : TyD := { und := TypeDesc.func #[194, 194] #[4] false, size := 1, bytes := 8, zero := [Value.nilFunc], fl := false }
theorem i_187 : TabE Try.prog (187, t_187, false) := ⟨by kernel_rfl, fun h => by simp at h⟩
def t_188 : TyD := { und := TypeDesc.pointer 5, size := 1, bytes := 8, zero := [Value.pointer none], fl := false }
theorem i_188 : TabE Try.prog (188, t_188, false) := ⟨by kernel_rfl, fun h => by simp at h⟩
def t_189 : TyD := { und := TypeDesc.int IntKind.i32, size := 1, bytes := 4, zero := [Value.int IntKind.i32 0], fl := true }
theorem i_189 : TabE Try.prog (189, t_189, false) := ⟨by kernel_rfl, fun h => by simp at h⟩
def t_190 : TyD := { und := TypeDesc.int IntKind.i32, size := 1, bytes := 4, zero := [Value.int IntKind.i32 0], fl := true }
theorem i_190 : TabE Try.prog (190, t_190, false) := ⟨by kernel_rfl, fun h => by simp at h⟩
def t_191 : TyD := { und := TypeDesc.struct #[{ name := "Size_", type := 12, offset := 0, embedded := false, tag := "", pkgPath := "", byteOffset := 0 }, { name := "PtrBytes", type := 12, offset := 1, embedded := false, tag := "", pkgPath := "", byteOffset := 8 }, { name := "Hash", type := 184, offset := 2, embedded := false, tag := "", pkgPath := "", byteOffset := 16 }, { name := "TFlag", type := 185, offset := 3, embedded := false, tag := "", pkgPath := "", byteOffset := 20 }, { name := "Align_", type := 5, offset := 4, embedded := false, tag := "", pkgPath := "", byteOffset := 21 }, { name := "FieldAlign_", type := 5, offset := 5, embedded := false, tag := "", pkgPath := "", byteOffset := 22 }, { name := "Kind_", type := 186, offset := 6, embedded := false, tag := "", pkgPath := "", byteOffset := 23 }, { name := "Equal", type := 187, offset := 7, embedded := false, tag := "", pkgPath := "", byteOffset := 24 }, { name := "GCData", type := 188, offset := 8, embedded := false, tag := "", pkgPath := "", byteOffset := 32 }, { name := "Str", type := 189, offset := 9, embedded := false, tag := "", pkgPath := "", byteOffset := 40 }, { name := "PtrToThis", type := 190, offset := 10, embedded := false, tag := "", pkgPath := "", byteOffset := 44 }], size := 11, bytes := 48, zero := [Value.int IntKind.u64 0, Value.int IntKind.u64 0, Value.int IntKind.u32 0, Value.int IntKind.u8 0, Value.int IntKind.u8 0, Value.int IntKind.u8 0, Value.int IntKind.u8 0, Value.nilFunc, Value.pointer none, Value.int IntKind.i32 0, Value.int IntKind.i32 0], fl := false }
theorem i_191 : TabE Try.prog (191, t_191, false) := ⟨by kernel_rfl, fun h => by simp at h⟩
def t_192 : TyD := { und := TypeDesc.struct #[{ name := "Size_", type := 12, offset := 0, embedded := false, tag := "", pkgPath := "", byteOffset := 0 }, { name := "PtrBytes", type := 12, offset := 1, embedded := false, tag := "", pkgPath := "", byteOffset := 8 }, { name := "Hash", type := 184, offset := 2, embedded := false, tag := "", pkgPath := "", byteOffset := 16 }, { name := "TFlag", type := 185, offset := 3, embedded := false, tag := "", pkgPath := "", byteOffset := 20 }, { name := "Align_", type := 5, offset := 4, embedded := false, tag := "", pkgPath := "", byteOffset := 21 }, { name := "FieldAlign_", type := 5, offset := 5, embedded := false, tag := "", pkgPath := "", byteOffset := 22 }, { name := "Kind_", type := 186, offset := 6, embedded := false, tag := "", pkgPath := "", byteOffset := 23 }, { name := "Equal", type := 187, offset := 7, embedded := false, tag := "", pkgPath := "", byteOffset := 24 }, { name := "GCData", type := 188, offset := 8, embedded := false, tag := "", pkgPath := "", byteOffset := 32 }, { name := "Str", type := 189, offset := 9, embedded := false, tag := "", pkgPath := "", byteOffset := 40 }, { name := "PtrToThis", type := 190, offset := 10, embedded := false, tag := "", pkgPath := "", byteOffset := 44 }], size := 11, bytes := 48, zero := [Value.int IntKind.u64 0, Value.int IntKind.u64 0, Value.int IntKind.u32 0, Value.int IntKind.u8 0, Value.int IntKind.u8 0, Value.int IntKind.u8 0, Value.int IntKind.u8 0, Value.nilFunc, Value.pointer none, Value.int IntKind.i32 0, Value.int IntKind.i32 0], fl := false }
theorem i_192 : TabE Try.prog (192, t_192, false) := ⟨by kernel_rfl, fun h => by simp at h⟩
def t_193 : TyD := { und := TypeDesc.func #[37] #[2, 4] false, size := 1, bytes := 8, zero := [Value.nilFunc], fl := false }
theorem i_193 : TabE Try.prog (193, t_193, false) := ⟨by kernel_rfl, fun h => by simp at h⟩
def t_194 : TyD := { und := TypeDesc.unsafePointer, size := 1, bytes := 8, zero := [Value.pointer none], fl := false }
theorem i_194 : TabE Try.prog (194, t_194, false) := ⟨by kernel_rfl, fun h => by simp at h⟩
def tyTab : List (Nat × TyD × Bool) := [(1, t_1, false), (2, t_2, false), (3, t_3, false), (4, t_4, false), (5, t_5, false), (6, t_6, false), (7, t_7, true), (8, t_8, true), (9, t_9, false), (10, t_10, false), (11, t_11, false), (12, t_12, false), (13, t_13, false), (14, t_14, false), (15, t_15, false), (16, t_16, false), (17, t_17, false), (18, t_18, false), (19, t_19, false), (21, t_21, false), (22, t_22, false), (23, t_23, false), (24, t_24, false), (26, t_26, false), (27, t_27, false), (28, t_28, false), (29, t_29, false), (30, t_30, false), (31, t_31, false), (32, t_32, false), (33, t_33, false), (34, t_34, false), (35, t_35, false), (36, t_36, true), (37, t_37, true), (38, t_38, false), (39, t_39, false), (40, t_40, false), (41, t_41, false), (42, t_42, true), (43, t_43, true), (44, t_44, false), (46, t_46, false), (47, t_47, true), (48, t_48, true), (50, t_50, false), (52, t_52, false), (54, t_54, false), (55, t_55, false), (56, t_56, true), (57, t_57, true), (58, t_58, false), (59, t_59, false), (60, t_60, false), (61, t_61, false), (62, t_62, false), (63, t_63, false), (64, t_64, false), (65, t_65, false), (66, t_66, false), (67, t_67, true), (68, t_68, true), (69, t_69, true), (70, t_70, true), (71, t_71, true), (72, t_72, false), (73, t_73, false), (74, t_74, false), (75, t_75, false), (76, t_76, false), (77, t_77, false), (78, t_78, false), (79, t_79, false), (80, t_80, false), (81, t_81, false), (82, t_82, false), (83, t_83, false), (84, t_84, false), (85, t_85, false), (86, t_86, false), (87, t_87, false), (88, t_88, false), (89, t_89, false), (90, t_90, false), (91, t_91, false), (92, t_92, true), (93, t_93, true), (94, t_94, false), (95, t_95, false), (96, t_96, false), (97, t_97, false), (98, t_98, true), (99, t_99, true), (100, t_100, false), (102, t_102, false), (103, t_103, false), (104, t_104, false), (105, t_105, false), (106, t_106, false), (107, t_107, false), (108, t_108, false), (109, t_109, false), (110, t_110, false), (111, t_111, false), (112, t_112, false), (113, t_113, false), (114, t_114, false), (115, t_115, false), (116, t_116, false), (117, t_117, false), (118, t_118, false), (119, t_119, false), (120, t_120, false), (121, t_121, false), (122, t_122, false), (123, t_123, false), (124, t_124, false), (125, t_125, false), (126, t_126, false), (127, t_127, false), (128, t_128, false), (129, t_129, false), (130, t_130, false), (131, t_131, false), (132, t_132, false), (133, t_133, false), (134, t_134, false), (135, t_135, false), (136, t_136, true), (137, t_137, true), (138, t_138, false), (139, t_139, false), (140, t_140, false), (141, t_141, false), (142, t_142, false), (143, t_143, false), (144, t_144, false), (145, t_145, false), (146, t_146, false), (147, t_147, false), (148, t_148, false), (149, t_149, false), (150, t_150, false), (151, t_151, false), (152, t_152, false), (153, t_153, false), (154, t_154, false), (155, t_155, false), (156, t_156, false), (157, t_157, false), (158, t_158, false), (159, t_159, false), (160, t_160, false), (161, t_161, false), (162, t_162, false), (163, t_163, false), (164, t_164, false), (165, t_165, false), (166, t_166, false), (167, t_167, false), (168, t_168, false), (169, t_169, false), (171, t_171, false), (172, t_172, false), (173, t_173, false), (174, t_174, false), (175, t_175, false), (176, t_176, false), (177, t_177, false), (178, t_178, false), (179, t_179, false), (180, t_180, false), (181, t_181, false), (182, t_182, false), (183, t_183, false), (184, t_184, false), (185, t_185, false), (186, t_186, false), (187, t_187, false), (188, t_188, false), (189, t_189, false), (190, t_190, false), (191, t_191, false), (192, t_192, false), (193, t_193, false), (194, t_194, false)]
@[reducible] def T0 : Ty := lookT tyTab
@[reducible] def Q0 : Nat → Bool := lookQ tyTab
theorem tabOk : TabOk Try.prog T0 Q0 := tab_ok (l := tyTab) (⟨i_1, i_2, i_3, i_4, i_5, i_6, i_7, i_8, i_9, i_10, i_11, i_12, i_13, i_14, i_15, i_16, i_17, i_18, i_19, i_21, i_22, i_23, i_24, i_26, i_27, i_28, i_29, i_30, i_31, i_32, i_33, i_34, i_35, i_36, i_37, i_38, i_39, i_40, i_41, i_42, i_43, i_44, i_46, i_47, i_48, i_50, i_52, i_54, i_55, i_56, i_57, i_58, i_59, i_60, i_61, i_62, i_63, i_64, i_65, i_66, i_67, i_68, i_69, i_70, i_71, i_72, i_73, i_74, i_75, i_76, i_77, i_78, i_79, i_80, i_81, i_82, i_83, i_84, i_85, i_86, i_87, i_88, i_89, i_90, i_91, i_92, i_93, i_94, i_95, i_96, i_97, i_98, i_99, i_100, i_102, i_103, i_104, i_105, i_106, i_107, i_108, i_109, i_110, i_111, i_112, i_113, i_114, i_115, i_116, i_117, i_118, i_119, i_120, i_121, i_122, i_123, i_124, i_125, i_126, i_127, i_128, i_129, i_130, i_131, i_132, i_133, i_134, i_135, i_136, i_137, i_138, i_139, i_140, i_141, i_142, i_143, i_144, i_145, i_146, i_147, i_148, i_149, i_150, i_151, i_152, i_153, i_154, i_155, i_156, i_157, i_158, i_159, i_160, i_161, i_162, i_163, i_164, i_165, i_166, i_167, i_168, i_169, i_171, i_172, i_173, i_174, i_175, i_176, i_177, i_178, i_179, i_180, i_181, i_182, i_183, i_184, i_185, i_186, i_187, i_188, i_189, i_190, i_191, i_192, i_193, i_194, trivial⟩)
end Go.Proofs.Ytghafpklomnhlaa.Eng
set_option linter.unusedVariables false
set_option linter.unusedSimpArgs false
namespace Go.Proofs.Ytghafpklomnhlaa.Eng
open Go Go.RowKit
set_option maxRecDepth 100000
theorem tmod_lt {a b : Int} (h : b ≠ 0) : (a.tmod b).natAbs < b.natAbs := by
  rw [Int.natAbs_tmod]; exact Nat.mod_lt _ (by omega)
theorem gcd_tmod {a b : Int} : Int.gcd b (a.tmod b) = Int.gcd a b := by
  simp only [Int.gcd, Int.natAbs_tmod]
  rw [Nat.gcd_comm, ← Nat.gcd_rec, Nat.gcd_comm]
theorem seg_get {α : Type} {l : List α} {s n i : Nat} {a : α} (h : (seg l s n)[i]? = some a) : l[s + i]? = some a ∧ i < n := by
  unfold seg at h
  rw [List.getElem?_take] at h
  split at h
  · rw [List.getElem?_drop] at h; exact ⟨h, by assumption⟩
  · simp at h
theorem seg_len {α : Type} {l : List α} {s n : Nat} (h : s + n ≤ l.length) : (seg l s n).length = n := by
  simp [seg]; omega
theorem atL_i {α : Type} {l : List α} {s n i : Nat} {a : α} {K : α → Prop} (ha : (seg l s n)[i]? = some a) (h : K a) : atL l (s + ((i : Nat) : Int).toNat) K :=
  atL_iff.2 ⟨a, by simpa using (seg_get ha).1, h⟩
theorem atL_0 {α : Type} {l : List α} {i : Nat} {a : α} {K : α → Prop} (ha : l[i]? = some a) (h : K a) : atL l (0 + ((i : Nat) : Int).toNat) K :=
  atL_iff.2 ⟨a, by simpa using ha, h⟩
theorem atL_n {α : Type} {l : List α} {i : Nat} {a : α} {K : α → Prop} (ha : l[i]? = some a) (h : K a) : atL l ((i : Nat) : Int).toNat K :=
  atL_iff.2 ⟨a, by simpa using ha, h⟩
theorem atL_p {α : Type} {l : List α} {i : Nat} {a : α} {K : α → Prop} (ha : l[i]? = some a) (h : K a) : atL l i K := atL_iff.2 ⟨a, ha, h⟩
theorem seg_full {α : Type} {l : List α} {n : Nat} (h : l.length = n) : seg l 0 n = l := by simp [seg, ← h]
theorem get_some {α : Type} {l : List α} {i : Nat} (h : i < l.length) : ∃ a, l[i]? = some a := ⟨l[i], by simp [h]⟩
/-- The first place where p holds, or -1. -/
def findI {α : Type} (p : α → Bool) (l : List α) : Int := if l.any p = true then (l.findIdx p : Int) else -1
theorem findI_none {α : Type} {p : α → Bool} {l : List α} (h : ∀ (j : Nat) a, l[j]? = some a → p a = false) : findI p l = -1 := by
  unfold findI
  rw [if_neg]
  rw [List.any_eq_true]
  rintro ⟨a, ha, hp⟩
  obtain ⟨j, hj⟩ := List.getElem?_of_mem ha
  rw [h j a hj] at hp; simp at hp
theorem findI_some {α : Type} {p : α → Bool} {l : List α} {i : Nat} {a : α} (ha : l[i]? = some a) (hp : p a = true) (h : ∀ (j : Nat) a, j < i → l[j]? = some a → p a = false) : findI p l = i := by
  unfold findI
  rw [if_pos (List.any_eq_true.2 ⟨a, List.mem_of_getElem? ha, hp⟩)]
  obtain ⟨hi, e⟩ := List.getElem?_eq_some_iff.1 ha
  have : l.findIdx p = i := by
    rw [List.findIdx_eq hi]
    exact ⟨by rw [e]; exact hp, fun j hj => h j _ hj (by simp)⟩
  rw [this]
theorem findI_any {α : Type} (p : α → Bool) (l : List α) : decide (0 ≤ findI p l) = l.any p := by
  unfold findI
  split
  · rename_i h; rw [h]; simp
  · rename_i h
    have : l.any p = false := by simpa using h
    rw [this]; rfl
theorem app_take {α : Type} {D : List α} {i : Nat} {w : α} (h : D[i]? = some w) : seg (D.take i) 0 i ++ seg [w] 0 1 = D.take (i + 1) := by
  have hl := (List.getElem?_eq_some_iff.1 h).1
  rw [seg_full (by rw [List.length_take]; omega), List.take_add_one, h]; rfl
theorem all_yes {α : Type} {p : α → Bool} {L : List α} {n : Nat} (hn : L.length ≤ n) (h : ∀ (j : Nat) a, j < n → L[j]? = some a → p a = true) : L.all p = true := by
  rw [List.all_eq_true]
  intro a ha
  obtain ⟨j, hj⟩ := List.getElem?_of_mem ha
  exact h j a (by have := (List.getElem?_eq_some_iff.1 hj).1; omega) hj
theorem all_no {α : Type} {p : α → Bool} {L : List α} {i : Nat} {a : α} (ha : L[i]? = some a) (hp : p a = false) : L.all p = false := by
  rw [List.all_eq_false]
  exact ⟨a, List.mem_of_getElem? ha, by simp [hp]⟩
/-- One more place where something holds. -/
theorem upto_step {α : Type} {p : α → Prop} {L : List α} {i : Nat} {a : α} (ha : L[i]? = some a) (hp : p a) (h : ∀ (j : Nat) b, j < i → L[j]? = some b → p b) : ∀ (j : Nat) b, j < i + 1 → L[j]? = some b → p b := fun j b hj hb => by
  by_cases e : j < i
  · exact h j b e hb
  · obtain rfl : j = i := by omega
    rw [ha] at hb; obtain rfl := Option.some.inj hb; exact hp
/-- Tests whose outcome is known. -/
theorem splitT_of {b : Bool} {A B : Prop} (h : b = true) (k : A) : splitB b A B := by subst h; exact splitT k
theorem splitF_of {b : Bool} {A B : Prop} (h : b = false) (k : B) : splitB b A B := by subst h; exact splitF k
def s_within : Spec := fun args S => match args, S with
  | [.int .i64 n, .int .i64 a, .int .i64 b], [] => ⟨True, .bool (decide (a ≤ n ∧ n ≤ b)), []⟩
  | _, _ => noSpec
theorem ok_within : SpecOk Try.prog 50 s_within := by
  intro args S h; unfold s_within at h ⊢; (split at h <;> first | exact False.elim h | skip)
  dsimp only at h ⊢
  refine funW tabOk (E := []) trivial [] (k := 0) (fn := Try.f50) rfl rfl rfl rfl rfl rfl ?_
  (repeat' ((try (conv => whnf)); first | (with_reducible first | refine And.intro ?_ ?_ | refine WX.of ?_) | exact zc | ((with_reducible refine VC.mk ?_); exact zw) | (with_reducible first | refine splitT ?_ | refine splitF ?_) | ((with_reducible refine splitM.mk (fun hsm => ?_) (fun hsm => ?_)) <;> (try exact zx)) | ((with_reducible refine splitB.mk (fun h => ?_) (fun h => ?_)) <;> (try simp only [zs, ne_eq] at h) <;> (try simp (disch := omega) only [w64] at h) <;> (try exact zx)) | (with_reducible intro hz; (try exact absurd hz (Nat.succ_ne_zero _)))))
  all_goals (first | exact ⟨rfl⟩ | (refine ⟨?_⟩; simp_all; done) | (refine ⟨?_⟩; simp_all; omega))
theorem ok_l00In : SpecOk Try.prog 105 s_within := by
  intro args S h; unfold s_within at h ⊢; (split at h <;> first | exact False.elim h | skip)
  dsimp only at h ⊢
  refine funW tabOk (E := []) trivial [] (k := 0) (fn := Try.f105) rfl rfl rfl rfl rfl rfl ?_
  (repeat' ((try (conv => whnf)); first | (with_reducible first | refine And.intro ?_ ?_ | refine WX.of ?_) | exact zc | ((with_reducible refine VC.mk ?_); exact zw) | (with_reducible first | refine splitT ?_ | refine splitF ?_) | ((with_reducible refine splitM.mk (fun hsm => ?_) (fun hsm => ?_)) <;> (try exact zx)) | ((with_reducible refine splitB.mk (fun h => ?_) (fun h => ?_)) <;> (try simp only [zs, ne_eq] at h) <;> (try simp (disch := omega) only [w64] at h) <;> (try exact zx)) | (with_reducible intro hz; (try exact absurd hz (Nat.succ_ne_zero _)))))
  all_goals (first | exact ⟨rfl⟩ | (refine ⟨?_⟩; simp_all; done) | (refine ⟨?_⟩; simp_all; omega))
/-- The sizes of all elements. -/
def tot {α : Type} (f : α → Nat) (l : List α) : Nat := (l.map f).sum
def s_gcd : Spec := fun args S => match args, S with
  | [.int .i64 a, .int .i64 b], [] => ⟨-9223372036854775808 < a ∧ a < 9223372036854775808 ∧ -9223372036854775808 < b ∧ b < 9223372036854775808, .int .i64 (Int.gcd a b), []⟩
  | _, _ => noSpec
theorem ok_gcd : SpecOk Try.prog 134 s_gcd := by
  intro args S h; unfold s_gcd at h ⊢; (split at h <;> first | exact False.elim h | skip)
  dsimp only at h ⊢
  rename_i a b
  refine funW tabOk (E := []) trivial [] (k := 0) (fn := Try.f134) rfl rfl rfl rfl rfl rfl ?_
  (repeat' ((try (conv => whnf)); first | (with_reducible first | refine And.intro ?_ ?_ | refine WX.of ?_) | exact zc | ((with_reducible refine VC.mk ?_); exact zw) | (with_reducible first | refine splitT ?_ | refine splitF ?_) | ((with_reducible refine splitM.mk (fun hsm => ?_) (fun hsm => ?_)) <;> (try exact zx)) | ((with_reducible refine splitB.mk (fun h => ?_) (fun h => ?_)) <;> (try simp only [zs, ne_eq] at h) <;> (try simp (disch := omega) only [w64] at h) <;> (try exact zx)) | (with_reducible intro hz; (try exact absurd hz (Nat.succ_ne_zero _)))))
  refine loopW tabOk (E := []) trivial [] (σ := Int × Int) (fun s => [(0, .int .i64 s.1), (1, .int .i64 s.2)]) (fun _ => []) (fun s => s.2.natAbs) (fun s => Int.gcd s.1 s.2 = Int.gcd a b ∧ -9223372036854775808 < s.1 ∧ s.1 < 9223372036854775808 ∧ -9223372036854775808 < s.2 ∧ s.2 < 9223372036854775808) (a, b) ⟨rfl, h⟩ ?_ ?_
  · (repeat' ((try (conv => whnf)); first | (with_reducible first | refine And.intro ?_ ?_ | refine WX.of ?_) | exact zc | ((with_reducible refine VC.mk ?_); exact zw) | (with_reducible first | refine splitT ?_ | refine splitF ?_) | ((with_reducible refine splitM.mk (fun hsm => ?_) (fun hsm => ?_)) <;> (try exact zx)) | ((with_reducible refine splitB.mk (fun h => ?_) (fun h => ?_)) <;> (try simp only [zs, ne_eq] at h) <;> (try simp (disch := omega) only [w64] at h) <;> (try exact zx)) | (with_reducible intro hz; (try exact absurd hz (Nat.succ_ne_zero _)))))
  · rintro ⟨x, y⟩ ⟨hg, hr⟩
    dsimp only at hg hr
    (repeat' ((try (conv => whnf)); first | (with_reducible first | refine And.intro ?_ ?_ | refine WX.of ?_) | exact zc | ((with_reducible refine VC.mk ?_); exact zw) | (with_reducible first | refine splitT ?_ | refine splitF ?_) | ((with_reducible refine splitM.mk (fun hsm => ?_) (fun hsm => ?_)) <;> (try exact zx)) | ((with_reducible refine splitB.mk (fun h => ?_) (fun h => ?_)) <;> (try simp only [zs, ne_eq] at h) <;> (try simp (disch := omega) only [w64] at h) <;> (try exact zx)) | (with_reducible intro hz; (try exact absurd hz (Nat.succ_ne_zero _)))))
    · have := tmod_lt (a := x) h
      refine ⟨(y, x.tmod y), this, ⟨by rw [← hg]; exact gcd_tmod, ?_⟩, ?_⟩
      · dsimp only; omega
      · (repeat' ((try (conv => whnf)); first | (with_reducible first | refine And.intro ?_ ?_ | refine WX.of ?_) | exact zc | ((with_reducible refine VC.mk ?_); exact zw) | (with_reducible first | refine splitT ?_ | refine splitF ?_) | ((with_reducible refine splitM.mk (fun hsm => ?_) (fun hsm => ?_)) <;> (try exact zx)) | ((with_reducible refine splitB.mk (fun h => ?_) (fun h => ?_)) <;> (try simp only [zs, ne_eq] at h) <;> (try simp (disch := omega) only [w64] at h) <;> (try exact zx)) | (with_reducible intro hz; (try exact absurd hz (Nat.succ_ne_zero _)))))
    · subst h
      simp at hg
      dsimp only
      rw [w64 (by omega)]
      refine ⟨?_⟩
      rw [← hg]
      congr 1
      split <;> omega
def s_abs : Spec := fun args S => match args, S with
  | [.int .i64 n], [] => ⟨-9223372036854775808 < n ∧ n < 9223372036854775808, .int .i64 (n.natAbs : Int), []⟩
  | _, _ => noSpec
theorem ok_l01Abs : SpecOk Try.prog 117 s_abs := by
  intro args S h; unfold s_abs at h ⊢; (split at h <;> first | exact False.elim h | skip)
  dsimp only at h ⊢
  refine funW tabOk (E := []) trivial [] (k := 0) (fn := Try.f117) rfl rfl rfl rfl rfl rfl ?_
  (repeat' ((try (conv => whnf)); first | (with_reducible first | refine And.intro ?_ ?_ | refine WX.of ?_) | exact zc | ((with_reducible refine VC.mk ?_); exact zw) | (with_reducible first | refine splitT ?_ | refine splitF ?_) | ((with_reducible refine splitM.mk (fun hsm => ?_) (fun hsm => ?_)) <;> (try exact zx)) | ((with_reducible refine splitB.mk (fun h => ?_) (fun h => ?_)) <;> (try simp only [zs, ne_eq] at h) <;> (try simp (disch := omega) only [w64] at h) <;> (try exact zx)) | (with_reducible intro hz; (try exact absurd hz (Nat.succ_ne_zero _)))))
def s_gcdN : Spec := fun args S => match args, S with
  | [.int .i64 a, .int .i64 b], [] => ⟨0 ≤ a ∧ a < 9223372036854775808 ∧ 0 ≤ b ∧ b < 9223372036854775808, .int .i64 (Int.gcd a b), []⟩
  | _, _ => noSpec
theorem ok_l01Gcd : SpecOk Try.prog 116 s_gcdN := by
  intro args S h; unfold s_gcdN at h ⊢; (split at h <;> first | exact False.elim h | skip)
  dsimp only at h ⊢
  rename_i a b
  refine funW tabOk (E := []) trivial [] (k := 0) (fn := Try.f116) rfl rfl rfl rfl rfl rfl ?_
  (repeat' ((try (conv => whnf)); first | (with_reducible first | refine And.intro ?_ ?_ | refine WX.of ?_) | exact zc | ((with_reducible refine VC.mk ?_); exact zw) | (with_reducible first | refine splitT ?_ | refine splitF ?_) | ((with_reducible refine splitM.mk (fun hsm => ?_) (fun hsm => ?_)) <;> (try exact zx)) | ((with_reducible refine splitB.mk (fun h => ?_) (fun h => ?_)) <;> (try simp only [zs, ne_eq] at h) <;> (try simp (disch := omega) only [w64] at h) <;> (try exact zx)) | (with_reducible intro hz; (try exact absurd hz (Nat.succ_ne_zero _)))))
  refine loopW tabOk (E := []) trivial [] (σ := Int × Int) (fun s => [(0, .int .i64 s.1), (1, .int .i64 s.2)]) (fun _ => []) (fun s => s.2.natAbs) (fun s => Int.gcd s.1 s.2 = Int.gcd a b ∧ 0 ≤ s.1 ∧ s.1 < 9223372036854775808 ∧ 0 ≤ s.2 ∧ s.2 < 9223372036854775808) (a, b) ⟨rfl, h⟩ ?_ ?_
  · (repeat' ((try (conv => whnf)); first | (with_reducible first | refine And.intro ?_ ?_ | refine WX.of ?_) | exact zc | ((with_reducible refine VC.mk ?_); exact zw) | (with_reducible first | refine splitT ?_ | refine splitF ?_) | ((with_reducible refine splitM.mk (fun hsm => ?_) (fun hsm => ?_)) <;> (try exact zx)) | ((with_reducible refine splitB.mk (fun h => ?_) (fun h => ?_)) <;> (try simp only [zs, ne_eq] at h) <;> (try simp (disch := omega) only [w64] at h) <;> (try exact zx)) | (with_reducible intro hz; (try exact absurd hz (Nat.succ_ne_zero _)))))
  · rintro ⟨x, y⟩ ⟨hg, hr⟩
    dsimp only at hg hr
    (repeat' ((try (conv => whnf)); first | (with_reducible first | refine And.intro ?_ ?_ | refine WX.of ?_) | exact zc | ((with_reducible refine VC.mk ?_); exact zw) | (with_reducible first | refine splitT ?_ | refine splitF ?_) | ((with_reducible refine splitM.mk (fun hsm => ?_) (fun hsm => ?_)) <;> (try exact zx)) | ((with_reducible refine splitB.mk (fun h => ?_) (fun h => ?_)) <;> (try simp only [zs, ne_eq] at h) <;> (try simp (disch := omega) only [w64] at h) <;> (try exact zx)) | (with_reducible intro hz; (try exact absurd hz (Nat.succ_ne_zero _)))))
    · have := tmod_lt (a := x) h
      have h2 := Int.tmod_nonneg y hr.1
      refine ⟨(y, x.tmod y), this, ⟨by rw [← hg]; exact gcd_tmod, ?_⟩, ?_⟩
      · dsimp only; omega
      · (repeat' ((try (conv => whnf)); first | (with_reducible first | refine And.intro ?_ ?_ | refine WX.of ?_) | exact zc | ((with_reducible refine VC.mk ?_); exact zw) | (with_reducible first | refine splitT ?_ | refine splitF ?_) | ((with_reducible refine splitM.mk (fun hsm => ?_) (fun hsm => ?_)) <;> (try exact zx)) | ((with_reducible refine splitB.mk (fun h => ?_) (fun h => ?_)) <;> (try simp only [zs, ne_eq] at h) <;> (try simp (disch := omega) only [w64] at h) <;> (try exact zx)) | (with_reducible intro hz; (try exact absurd hz (Nat.succ_ne_zero _)))))
    · subst h
      simp at hg
      refine ⟨?_⟩
      dsimp only
      rw [← hg]
      congr 1
      omega
/-- A valid fraction. -/
def fOk (p q : Int) : Bool := decide (1 ≤ q ∧ q ≤ 1000000000 ∧ -1000000000 ≤ p ∧ p ≤ 1000000000 ∧ Int.gcd p q = 1)
theorem fOk_iff {p q : Int} : fOk p q = true ↔ 1 ≤ q ∧ q ≤ 1000000000 ∧ -1000000000 ≤ p ∧ p ≤ 1000000000 ∧ Int.gcd p q = 1 := by simp [fOk]
def s_fOk : Spec := fun args S => match args, S with
  | [.agg [.int .i64 p, .int .i64 q]], [] => ⟨True, .bool (fOk p q), []⟩
  | _, _ => noSpec
theorem gcd_abs (p q : Int) : Int.gcd (p.natAbs : Int) q = Int.gcd p q := by simp [Int.gcd]
theorem ok_ValidFrac : SpecOk Try.prog 74 s_fOk := by
  intro args S h; unfold s_fOk at h ⊢; (split at h <;> first | exact False.elim h | skip)
  dsimp only at h ⊢
  refine funW tabOk (E := [(50, s_within), (134, s_gcd)]) ⟨ok_within, ok_gcd, trivial⟩ [] (k := 0) (fn := Try.f74) rfl rfl rfl rfl rfl rfl ?_
  (repeat' ((try (conv => whnf)); first | (with_reducible first | refine And.intro ?_ ?_ | refine WX.of ?_) | exact zc | ((with_reducible refine VC.mk ?_); exact zw) | (with_reducible first | refine splitT ?_ | refine splitF ?_) | ((with_reducible refine splitM.mk (fun hsm => ?_) (fun hsm => ?_)) <;> (try exact zx)) | ((with_reducible refine splitB.mk (fun h => ?_) (fun h => ?_)) <;> (try simp only [zs, ne_eq] at h) <;> (try simp (disch := omega) only [w64] at h) <;> (try exact zx)) | (with_reducible intro hz; (try exact absurd hz (Nat.succ_ne_zero _)))))
  all_goals (refine ⟨congrArg SV.bool ?_⟩; (try dsimp only); (try simp (disch := omega) only [w64]); rw [Bool.eq_iff_iff]; try (simp [fOk]); try omega)
theorem ok_l01Ok : SpecOk Try.prog 61 s_fOk := by
  intro args S h; unfold s_fOk at h ⊢; (split at h <;> first | exact False.elim h | skip)
  dsimp only at h ⊢
  refine funW tabOk (E := [(105, s_within), (116, s_gcdN), (117, s_abs)]) ⟨ok_l00In, ok_l01Gcd, ok_l01Abs, trivial⟩ [(1, [(13, 2)])] (k := 0) (fn := Try.f61) rfl rfl rfl rfl rfl rfl ?_
  (repeat' ((try (conv => whnf)); first | (with_reducible first | refine And.intro ?_ ?_ | refine WX.of ?_) | exact zc | ((with_reducible refine VC.mk ?_); exact zw) | (with_reducible first | refine splitT ?_ | refine splitF ?_) | ((with_reducible refine splitM.mk (fun hsm => ?_) (fun hsm => ?_)) <;> (try exact zx)) | ((with_reducible refine splitB.mk (fun h => ?_) (fun h => ?_)) <;> (try simp only [zs, ne_eq] at h) <;> (try simp (disch := omega) only [w64] at h) <;> (try exact zx)) | (with_reducible intro hz; (try exact absurd hz (Nat.succ_ne_zero _)))))
  all_goals (refine ⟨congrArg SV.bool ?_⟩; (try dsimp only); (try simp (disch := omega) only [w64]); rw [Bool.eq_iff_iff]; try (simp [fOk, gcd_abs]); try omega)
/-- The reduced fraction. -/
def redG (p q : Int) : Int := (Int.gcd p q : Int)
def redP (p q : Int) : Int := if q < 0 then -(p / redG p q) else p / redG p q
def redQ (p q : Int) : Int := if q < 0 then -(q / redG p q) else q / redG p q
def redOk (p q : Int) : Bool := fOk (redP p q) (redQ p q)
theorem redG_pos {p q : Int} (h : q ≠ 0) : 0 < redG p q := by
  unfold redG
  have : 0 < Int.gcd p q := Int.gcd_pos_of_ne_zero_right _ h
  omega
theorem redG_le {p q M : Int} (h : q ≠ 0) (hq : -M ≤ q ∧ q ≤ M) : redG p q ≤ M := by
  unfold redG
  have := Nat.le_of_dvd (by omega) (Nat.gcd_dvd_right p.natAbs q.natAbs)
  have e : Int.gcd p q = Nat.gcd p.natAbs q.natAbs := rfl
  omega
theorem ediv_small {p g M : Int} (hg : 0 < g) (h : -M ≤ p ∧ p ≤ M) : -M ≤ p / g ∧ p / g ≤ M := by
  have h0 : 0 ≤ M := by omega
  refine ⟨?_, ?_⟩
  · rw [Int.le_ediv_iff_mul_le hg]
    have : M ≤ M * g := by have := Int.mul_le_mul_of_nonneg_left (show 1 ≤ g by omega) h0; omega
    rw [Int.neg_mul]; omega
  · have := Int.ediv_le_ediv hg h.2
    have := Int.ediv_le_self g h0
    omega
theorem red_p {p q : Int} : p.tdiv (redG p q) = p / redG p q := Int.tdiv_eq_ediv_of_dvd (Int.gcd_dvd_left ..)
theorem red_q {p q : Int} : q.tdiv (redG p q) = q / redG p q := Int.tdiv_eq_ediv_of_dvd (Int.gcd_dvd_right ..)
theorem red_np {p q : Int} : (-p).tdiv (redG p q) = -(p / redG p q) := by rw [Int.neg_tdiv, red_p]
theorem red_nq {p q : Int} : (-q).tdiv (redG p q) = -(q / redG p q) := by rw [Int.neg_tdiv, red_q]
theorem red_bound {p q : Int} (h : q ≠ 0) (hp : -9223372036854775807 ≤ p ∧ p ≤ 9223372036854775807) (hq : -9223372036854775807 ≤ q ∧ q ≤ 9223372036854775807) :
    (-9223372036854775807 ≤ p / redG p q ∧ p / redG p q ≤ 9223372036854775807) ∧ (-9223372036854775807 ≤ q / redG p q ∧ q / redG p q ≤ 9223372036854775807) :=
  ⟨ediv_small (redG_pos h) hp, ediv_small (redG_pos h) hq⟩
/-- The sign of the reduced denominator. -/
theorem red_sign {p q : Int} (h : q ≠ 0) : (q / redG p q < 0 ↔ q < 0) := by
  have hg := redG_pos (p := p) h
  constructor
  · intro h1
    have := Int.ediv_mul_cancel (a := q) (b := redG p q) (Int.gcd_dvd_right ..)
    have h2 : q / redG p q * redG p q < 0 := Int.mul_neg_of_neg_of_pos h1 hg
    omega
  · intro h1
    have := Int.ediv_mul_cancel (a := q) (b := redG p q) (Int.gcd_dvd_right ..)
    apply Classical.byContradiction; intro h2
    have h3 : 0 ≤ q / redG p q * redG p q := Int.mul_nonneg (by omega) (by omega)
    omega
def s_red : Spec := fun args S => match args, S with
  | [.int .i64 p, .int .i64 q], [] => ⟨q ≠ 0 ∧ (-9223372036854775807 ≤ p ∧ p ≤ 9223372036854775807) ∧ (-9223372036854775807 ≤ q ∧ q ≤ 9223372036854775807), .tup [.agg [.int .i64 (if redOk p q = true then redP p q else 0), .int .i64 (if redOk p q = true then redQ p q else 0)], .int .i64 (if redOk p q = true then 0 else 3)], []⟩
  | _, _ => noSpec
theorem ok_l01Reduced : SpecOk Try.prog 57 s_red := by
  intro args S h; unfold s_red at h ⊢; (split at h <;> first | exact False.elim h | skip)
  dsimp only at h ⊢
  rename_i p q
  obtain ⟨h0, hp, hq⟩ := h
  have hg := redG_pos (p := p) h0
  have hgl := redG_le (p := p) h0 hq
  have hb := red_bound h0 hp hq
  have hs := red_sign (p := p) h0
  have e : (Int.gcd (p.natAbs : Int) (q.natAbs : Int) : Int) = redG p q := by simp [Int.gcd, redG]
  refine funW tabOk (E := [(61, s_fOk), (116, s_gcdN), (117, s_abs)]) ⟨ok_l01Ok, ok_l01Gcd, ok_l01Abs, trivial⟩ [] (k := 0) (fn := Try.f57) rfl rfl rfl rfl rfl rfl ?_
  (repeat' ((try (conv => whnf)); first | (with_reducible first | refine And.intro ?_ ?_ | refine WX.of ?_) | exact zc | ((with_reducible refine VC.mk ?_); exact zw) | (with_reducible first | refine splitT ?_ | refine splitF ?_) | ((with_reducible refine splitM.mk (fun hsm => ?_) (fun hsm => ?_)) <;> (try exact zx)) | ((with_reducible refine splitB.mk (fun h => ?_) (fun h => ?_)) <;> (try simp only [zs, ne_eq] at h) <;> (try simp (disch := omega) only [w64] at h) <;> (try exact zx)) | (with_reducible intro hz; (try exact absurd hz (Nat.succ_ne_zero _)))))
  all_goals
    rename_i hq'
    simp (disch := omega) only [e, red_p, red_q, w64, Int.zero_sub] at h hq' ⊢
    first | rw [hs] at hq' | (rw [← Int.not_lt, hs] at hq')
    refine ⟨?_⟩
    simp [redOk, redP, redQ, h, hq']
/-- What fracOf answers. -/
def s_fracOf : Spec := fun args S => match args, S with
  | [.int .i64 p, .int .i64 q], [] => ⟨q ≠ 0 ∧ (-9223372036854775807 ≤ p ∧ p ≤ 9223372036854775807) ∧ (-9223372036854775807 ≤ q ∧ q ≤ 9223372036854775807), .tup [.agg [.int .i64 (if redOk p q = true then redP p q else 0), .int .i64 (if redOk p q = true then redQ p q else 0)], .bool (redOk p q)], []⟩
  | _, _ => noSpec
theorem redG_neg (p q : Int) : (Int.gcd (-p) (-q) : Int) = redG p q := by simp [redG]
theorem ok_fracOf : SpecOk Try.prog 167 s_fracOf := by
  intro args S h; unfold s_fracOf at h ⊢; (split at h <;> first | exact False.elim h | skip)
  dsimp only at h ⊢
  rename_i p q
  obtain ⟨h0, hp, hq⟩ := h
  have hg := redG_pos (p := p) h0
  have hgl := redG_le (p := p) h0 hq
  have hb := red_bound h0 hp hq
  have hs := red_sign (p := p) h0
  have e : (Int.gcd p q : Int) = redG p q := rfl
  have e2 := redG_neg p q
  refine funW tabOk (E := [(74, s_fOk), (134, s_gcd)]) ⟨ok_ValidFrac, ok_gcd, trivial⟩ [] (k := 0) (fn := Try.f167) rfl rfl rfl rfl rfl rfl ?_
  (repeat' ((try (conv => whnf)); first | (with_reducible first | refine And.intro ?_ ?_ | refine WX.of ?_) | exact zc | ((with_reducible refine VC.mk ?_); exact zw) | ((with_reducible refine VC.mk ?_); simp (disch := omega) only [w64, Int.zero_sub, e, e2]; omega) | (with_reducible first | refine splitT ?_ | refine splitF ?_) | ((with_reducible refine splitM.mk (fun hsm => ?_) (fun hsm => ?_)) <;> (try exact zx)) | ((with_reducible refine splitB.mk (fun h => ?_) (fun h => ?_)) <;> (try simp only [zs, ne_eq] at h) <;> (try simp (disch := omega) only [w64] at h) <;> (try exact zx)) | (with_reducible intro hz; (try exact absurd hz (Nat.succ_ne_zero _)))))
  all_goals
    rename_i hq'
    simp (disch := omega) only [e, e2, red_p, red_q, red_np, red_nq, w64, Int.zero_sub] at h ⊢
    refine ⟨?_⟩
    first | (simp [redOk, redP, redQ, h, hq']; done) | simp [redOk, redP, redQ, h, show ¬ q < 0 by omega]
/-- What told answers: 0 where it is no valid fraction. -/
def tolP (p q : Int) : Int := if redOk p q = true then redP p q else 0
def tolQ (p q : Int) : Int := if redOk p q = true then redQ p q else 1
def s_told : Spec := fun args S => match args, S with
  | [.ptr b 0 0, .int .i64 p, .int .i64 q], [.arr .bool [bad] 0 true] => ⟨b = 0 ∧ q ≠ 0 ∧ (-9223372036854775807 ≤ p ∧ p ≤ 9223372036854775807) ∧ (-9223372036854775807 ≤ q ∧ q ≤ 9223372036854775807), .agg [.int .i64 (tolP p q), .int .i64 (tolQ p q)], [.arr .bool [bad || !redOk p q] 0 true]⟩
  | _, _ => noSpec
def s_zero : Spec := fun args S => match args, S with
  | [], [] => ⟨True, .agg [.int .i64 0, .int .i64 1], []⟩
  | _, _ => noSpec
theorem ok_zero : SpecOk Try.prog 142 s_zero := by
  intro args S h; unfold s_zero at h ⊢; (split at h <;> first | exact False.elim h | skip)
  dsimp only at h ⊢
  refine funW tabOk (E := []) trivial [] (k := 0) (fn := Try.f142) rfl rfl rfl rfl rfl rfl ?_
  (repeat' ((try (conv => whnf)); first | (with_reducible first | refine And.intro ?_ ?_ | refine WX.of ?_) | exact zc | ((with_reducible refine VC.mk ?_); exact zw) | (with_reducible first | refine splitT ?_ | refine splitF ?_) | ((with_reducible refine splitM.mk (fun hsm => ?_) (fun hsm => ?_)) <;> (try exact zx)) | ((with_reducible refine splitB.mk (fun h => ?_) (fun h => ?_)) <;> (try simp only [zs, ne_eq] at h) <;> (try simp (disch := omega) only [w64] at h) <;> (try exact zx)) | (with_reducible intro hz; (try exact absurd hz (Nat.succ_ne_zero _)))))
theorem ok_told : SpecOk Try.prog 135 s_told := by
  intro args S h; unfold s_told at h ⊢; (split at h <;> first | exact False.elim h | skip)
  dsimp only at h ⊢
  rename_i b p q bad
  obtain ⟨rfl, h0, hp, hq⟩ := h
  refine funW tabOk (E := [(167, s_fracOf), (142, s_zero)]) ⟨ok_fracOf, ok_zero, trivial⟩ [] (k := 1) (fn := Try.f135) rfl rfl rfl rfl rfl rfl ?_
  (repeat' ((try (conv => whnf)); first | (with_reducible first | refine And.intro ?_ ?_ | refine WX.of ?_) | exact zc | ((with_reducible refine VC.mk ?_); exact zw) | (with_reducible first | refine splitT ?_ | refine splitF ?_) | ((with_reducible refine splitM.mk (fun hsm => ?_) (fun hsm => ?_)) <;> (try exact zx)) | ((with_reducible refine splitB.mk (fun h => ?_) (fun h => ?_)) <;> (try simp only [zs, ne_eq] at h) <;> (try simp (disch := omega) only [w64] at h) <;> (try exact zx)) | (with_reducible intro hz; (try exact absurd hz (Nat.succ_ne_zero _)))))
  all_goals (refine ⟨?_⟩; simp [tolP, tolQ, h])
def s_one : Spec := fun args S => match args, S with
  | [.ptr b 0 0, .agg [.int .i64 p, .int .i64 q]], [.arr .bool [bad] 0 true] => ⟨b = 0, .tup [.agg [.int .i64 (if bad = true then 0 else p), .int .i64 (if bad = true then 0 else q)], .int .i64 (if bad = true then 3 else 0)], [.arr .bool [bad] 0 true]⟩
  | _, _ => noSpec
theorem ok_one : SpecOk Try.prog 76 s_one := by
  intro args S h; unfold s_one at h ⊢; (split at h <;> first | exact False.elim h | skip)
  dsimp only at h ⊢
  rename_i b p q bad
  subst h
  refine funW tabOk (E := []) trivial [] (k := 1) (fn := Try.f76) rfl rfl rfl rfl rfl rfl ?_
  (repeat' ((try (conv => whnf)); first | (with_reducible first | refine And.intro ?_ ?_ | refine WX.of ?_) | exact zc | ((with_reducible refine VC.mk ?_); exact zw) | (with_reducible first | refine splitT ?_ | refine splitF ?_) | ((with_reducible refine splitM.mk (fun hsm => ?_) (fun hsm => ?_)) <;> (try exact zx)) | ((with_reducible refine splitB.mk (fun h => ?_) (fun h => ?_)) <;> (try simp only [zs, ne_eq] at h) <;> (try simp (disch := omega) only [w64] at h) <;> (try exact zx)) | (with_reducible intro hz; (try exact absurd hz (Nat.succ_ne_zero _)))))
  all_goals (refine ⟨?_⟩; simp [h])
theorem mulB {a b : Int} (ha : -1000000000 ≤ a ∧ a ≤ 1000000000) (hb : -1000000000 ≤ b ∧ b ≤ 1000000000) : -1000000000000000000 ≤ a * b ∧ a * b ≤ 1000000000000000000 := by
  have h1 : a.natAbs ≤ 1000000000 := by omega
  have h2 : b.natAbs ≤ 1000000000 := by omega
  have h3 := Nat.mul_le_mul h1 h2
  rw [← Int.natAbs_mul] at h3
  omega
theorem mulPos {a b : Int} (ha : 1 ≤ a) (hb : 1 ≤ b) : 1 ≤ a * b := by
  have := Int.mul_le_mul ha hb (by omega) (by omega)
  omega
/-- The parts of a fraction within bounds. -/
def smF (p q : Int) : Prop := (-1000000000 ≤ p ∧ p ≤ 1000000000) ∧ 1 ≤ q ∧ q ≤ 1000000000
theorem smF_ok {p q : Int} (h : fOk p q = true) : smF p q := by
  rw [fOk_iff] at h; unfold smF; omega
theorem smF_1 {n : Int} (h : -1000000000 ≤ n ∧ n ≤ 1000000000) : smF n 1 := by unfold smF; omega
def s_add : Spec := fun args S => match args, S with
  | [.ptr b 0 0, .agg [.int .i64 p, .int .i64 q], .agg [.int .i64 p', .int .i64 q']], [.arr .bool [bad] 0 true] => ⟨b = 0 ∧ smF p q ∧ smF p' q', .agg [.int .i64 (tolP (p * q' + p' * q) (q * q')), .int .i64 (tolQ (p * q' + p' * q) (q * q'))], [.arr .bool [bad || !redOk (p * q' + p' * q) (q * q')] 0 true]⟩
  | _, _ => noSpec
def s_sub : Spec := fun args S => match args, S with
  | [.ptr b 0 0, .agg [.int .i64 p, .int .i64 q], .agg [.int .i64 p', .int .i64 q']], [.arr .bool [bad] 0 true] => ⟨b = 0 ∧ smF p q ∧ smF p' q', .agg [.int .i64 (tolP (p * q' - p' * q) (q * q')), .int .i64 (tolQ (p * q' - p' * q) (q * q'))], [.arr .bool [bad || !redOk (p * q' - p' * q) (q * q')] 0 true]⟩
  | _, _ => noSpec
/-- A quotient; by 0 nothing valid. -/
def divOk (p q p' q' : Int) : Bool := !decide (p' = 0) && redOk (p * q') (q * p')
def divP (p q p' q' : Int) : Int := if p' = 0 then 0 else tolP (p * q') (q * p')
def divQ (p q p' q' : Int) : Int := if p' = 0 then 1 else tolQ (p * q') (q * p')
def s_div : Spec := fun args S => match args, S with
  | [.ptr b 0 0, .agg [.int .i64 p, .int .i64 q], .agg [.int .i64 p', .int .i64 q']], [.arr .bool [bad] 0 true] => ⟨b = 0 ∧ smF p q ∧ smF p' q', .agg [.int .i64 (divP p q p' q'), .int .i64 (divQ p q p' q')], [.arr .bool [bad || !divOk p q p' q'] 0 true]⟩
  | _, _ => noSpec
theorem smF_mul {p q p' q' : Int} (h : smF p q) (h' : smF p' q') :
    (-1000000000000000000 ≤ p * q' ∧ p * q' ≤ 1000000000000000000) ∧ (-1000000000000000000 ≤ p' * q ∧ p' * q ≤ 1000000000000000000) ∧ (-1000000000000000000 ≤ q * p' ∧ q * p' ≤ 1000000000000000000) ∧ (-1000000000000000000 ≤ p * p' ∧ p * p' ≤ 1000000000000000000) ∧ (1 ≤ q * q' ∧ q * q' ≤ 1000000000000000000) := by
  unfold smF at h h'
  exact ⟨mulB h.1 ⟨by omega, by omega⟩, mulB h'.1 ⟨by omega, by omega⟩, mulB ⟨by omega, by omega⟩ h'.1, mulB h.1 h'.1, mulPos h.2.1 h'.2.1, (mulB ⟨by omega, by omega⟩ ⟨by omega, by omega⟩).2⟩
theorem ok_add : SpecOk Try.prog 144 s_add := by
  intro args S h; unfold s_add at h ⊢; (split at h <;> first | exact False.elim h | skip)
  dsimp only at h ⊢
  rename_i b p q p' q' bad
  obtain ⟨rfl, h1, h2⟩ := h
  have hm := smF_mul h1 h2
  refine funW tabOk (E := [(135, s_told)]) ⟨ok_told, trivial⟩ [] (k := 1) (fn := Try.f144) rfl rfl rfl rfl rfl rfl ?_
  (repeat' ((try (conv => whnf)); first | (with_reducible first | refine And.intro ?_ ?_ | refine WX.of ?_) | exact zc | ((with_reducible refine VC.mk ?_); exact zw) | ((with_reducible refine VC.mk ?_); simp (disch := omega) only [w64]; first  |  done  |  omega  |  (refine ⟨?_, ?_, ?_⟩ <;> first  |  trivial  |  omega)) | (with_reducible first | refine splitT ?_ | refine splitF ?_) | ((with_reducible refine splitM.mk (fun hsm => ?_) (fun hsm => ?_)) <;> (try exact zx)) | ((with_reducible refine splitB.mk (fun h => ?_) (fun h => ?_)) <;> (try simp only [zs, ne_eq] at h) <;> (try simp (disch := omega) only [w64] at h) <;> (try exact zx)) | (with_reducible intro hz; (try exact absurd hz (Nat.succ_ne_zero _)))))
theorem ok_sub : SpecOk Try.prog 77 s_sub := by
  intro args S h; unfold s_sub at h ⊢; (split at h <;> first | exact False.elim h | skip)
  dsimp only at h ⊢
  rename_i b p q p' q' bad
  obtain ⟨rfl, h1, h2⟩ := h
  have hm := smF_mul h1 h2
  refine funW tabOk (E := [(135, s_told)]) ⟨ok_told, trivial⟩ [] (k := 1) (fn := Try.f77) rfl rfl rfl rfl rfl rfl ?_
  (repeat' ((try (conv => whnf)); first | (with_reducible first | refine And.intro ?_ ?_ | refine WX.of ?_) | exact zc | ((with_reducible refine VC.mk ?_); exact zw) | ((with_reducible refine VC.mk ?_); simp (disch := omega) only [w64]; first  |  done  |  omega  |  (refine ⟨?_, ?_, ?_⟩ <;> first  |  trivial  |  omega)) | (with_reducible first | refine splitT ?_ | refine splitF ?_) | ((with_reducible refine splitM.mk (fun hsm => ?_) (fun hsm => ?_)) <;> (try exact zx)) | ((with_reducible refine splitB.mk (fun h => ?_) (fun h => ?_)) <;> (try simp only [zs, ne_eq] at h) <;> (try simp (disch := omega) only [w64] at h) <;> (try exact zx)) | (with_reducible intro hz; (try exact absurd hz (Nat.succ_ne_zero _)))))
theorem ok_div : SpecOk Try.prog 127 s_div := by
  intro args S h; unfold s_div at h ⊢; (split at h <;> first | exact False.elim h | skip)
  dsimp only at h ⊢
  rename_i b p q p' q' bad
  obtain ⟨rfl, h1, h2⟩ := h
  have hm := smF_mul h1 h2
  refine funW tabOk (E := [(135, s_told), (142, s_zero)]) ⟨ok_told, ok_zero, trivial⟩ [] (k := 1) (fn := Try.f127) rfl rfl rfl rfl rfl rfl ?_
  (repeat' ((try (conv => whnf)); first | (with_reducible first | refine And.intro ?_ ?_ | refine WX.of ?_) | exact zc | ((with_reducible refine VC.mk ?_); exact zw) | ((with_reducible refine VC.mk ?_); simp (disch := omega) only [w64]; first  |  done  |  omega  |  (refine ⟨?_, ?_, ?_⟩ <;> first  |  trivial  |  omega)) | (with_reducible first | refine splitT ?_ | refine splitF ?_) | ((with_reducible refine splitM.mk (fun hsm => ?_) (fun hsm => ?_)) <;> (try exact zx)) | ((with_reducible refine splitB.mk (fun h => ?_) (fun h => ?_)) <;> (try simp only [zs, ne_eq] at h) <;> (try simp (disch := omega) only [w64] at h) <;> (try exact zx)) | (with_reducible intro hz; (try exact absurd hz (Nat.succ_ne_zero _)))))
  · refine ⟨?_⟩; simp [divP, divQ, h]
  · refine ⟨?_⟩; simp [divOk, h]
  · have h3 : q * p' ≠ 0 := Int.mul_ne_zero (by unfold smF at h1; omega) h
    refine ⟨?_⟩
    simp (disch := omega) only [w64]
    refine ⟨?_, h3, ?_, ?_⟩ <;> first | trivial | omega
  · refine ⟨?_⟩
    simp (disch := omega) only [w64]
    simp [divP, divQ, h]
  · refine ⟨?_⟩
    simp (disch := omega) only [w64]
    simp [divOk, h]
def s_num : Spec := fun args S => match args, S with
  | [.int .i64 n], [] => ⟨True, .agg [.int .i64 n, .int .i64 1], []⟩
  | _, _ => noSpec
theorem ok_num : SpecOk Try.prog 89 s_num := by
  intro args S h; unfold s_num at h ⊢; (split at h <;> first | exact False.elim h | skip)
  dsimp only at h ⊢
  refine funW tabOk (E := []) trivial [] (k := 0) (fn := Try.f89) rfl rfl rfl rfl rfl rfl ?_
  (repeat' ((try (conv => whnf)); first | (with_reducible first | refine And.intro ?_ ?_ | refine WX.of ?_) | exact zc | ((with_reducible refine VC.mk ?_); exact zw) | (with_reducible first | refine splitT ?_ | refine splitF ?_) | ((with_reducible refine splitM.mk (fun hsm => ?_) (fun hsm => ?_)) <;> (try exact zx)) | ((with_reducible refine splitB.mk (fun h => ?_) (fun h => ?_)) <;> (try simp only [zs, ne_eq] at h) <;> (try simp (disch := omega) only [w64] at h) <;> (try exact zx)) | (with_reducible intro hz; (try exact absurd hz (Nat.succ_ne_zero _)))))
end Go.Proofs.Ytghafpklomnhlaa.Eng
set_option linter.unusedVariables false
set_option linter.unusedSimpArgs false
namespace Go.Proofs.Ytghafpklomnhlaa.Eng
open Go Go.RowKit
set_option maxRecDepth 100000
/-- A number that is a reading. -/
def plainB (n : Int) : Bool := decide (-1000000 ≤ n ∧ n ≤ 1000000)
def s_count : Spec := fun args S => match args, S with
  | [.int .i64 n], [] => ⟨-9223372036854775808 ≤ n ∧ n < 9223372036854775808, .bool (decide (1 ≤ n ∧ n ≤ 64)), []⟩
  | _, _ => noSpec
theorem ok_isCount : SpecOk Try.prog 125 s_count := by
  intro args S h; unfold s_count at h ⊢; (split at h <;> first | exact False.elim h | skip)
  dsimp only at h ⊢
  refine funW tabOk (E := [(50, s_within)]) ⟨ok_within, trivial⟩ [] (k := 0) (fn := Try.f125) rfl rfl rfl rfl rfl rfl ?_
  (repeat' ((try (conv => whnf)); first | (with_reducible first | refine And.intro ?_ ?_ | refine WX.of ?_) | exact zc | ((with_reducible refine VC.mk ?_); exact zw) | (with_reducible first | refine splitT ?_ | refine splitF ?_) | ((with_reducible refine splitM.mk (fun hsm => ?_) (fun hsm => ?_)) <;> (try exact zx)) | ((with_reducible refine splitB.mk (fun h => ?_) (fun h => ?_)) <;> (try simp only [zs, ne_eq] at h) <;> (try simp (disch := omega) only [w64] at h) <;> (try exact zx)) | (with_reducible intro hz; (try exact absurd hz (Nat.succ_ne_zero _)))))
  all_goals (first | exact ⟨rfl⟩ | (refine ⟨?_⟩; simp_all; done) | (refine ⟨?_⟩; simp_all; omega))
theorem ok_l06Many : SpecOk Try.prog 129 s_count := by
  intro args S h; unfold s_count at h ⊢; (split at h <;> first | exact False.elim h | skip)
  dsimp only at h ⊢
  refine funW tabOk (E := [(105, s_within)]) ⟨ok_l00In, trivial⟩ [] (k := 0) (fn := Try.f129) rfl rfl rfl rfl rfl rfl ?_
  (repeat' ((try (conv => whnf)); first | (with_reducible first | refine And.intro ?_ ?_ | refine WX.of ?_) | exact zc | ((with_reducible refine VC.mk ?_); exact zw) | (with_reducible first | refine splitT ?_ | refine splitF ?_) | ((with_reducible refine splitM.mk (fun hsm => ?_) (fun hsm => ?_)) <;> (try exact zx)) | ((with_reducible refine splitB.mk (fun h => ?_) (fun h => ?_)) <;> (try simp only [zs, ne_eq] at h) <;> (try simp (disch := omega) only [w64] at h) <;> (try exact zx)) | (with_reducible intro hz; (try exact absurd hz (Nat.succ_ne_zero _)))))
  all_goals (first | exact ⟨rfl⟩ | (refine ⟨?_⟩; simp_all; done) | (refine ⟨?_⟩; simp_all; omega))
def s_plain : Spec := fun args S => match args, S with
  | [.int .i64 n], [] => ⟨True, .bool (plainB n), []⟩
  | _, _ => noSpec
theorem ok_l06Plain : SpecOk Try.prog 64 s_plain := by
  intro args S h; unfold s_plain at h ⊢; (split at h <;> first | exact False.elim h | skip)
  dsimp only at h ⊢
  refine funW tabOk (E := [(105, s_within)]) ⟨ok_l00In, trivial⟩ [] (k := 0) (fn := Try.f64) rfl rfl rfl rfl rfl rfl ?_
  (repeat' ((try (conv => whnf)); first | (with_reducible first | refine And.intro ?_ ?_ | refine WX.of ?_) | exact zc | ((with_reducible refine VC.mk ?_); exact zw) | (with_reducible first | refine splitT ?_ | refine splitF ?_) | ((with_reducible refine splitM.mk (fun hsm => ?_) (fun hsm => ?_)) <;> (try exact zx)) | ((with_reducible refine splitB.mk (fun h => ?_) (fun h => ?_)) <;> (try simp only [zs, ne_eq] at h) <;> (try simp (disch := omega) only [w64] at h) <;> (try exact zx)) | (with_reducible intro hz; (try exact absurd hz (Nat.succ_ne_zero _)))))
def s_notPlain : Spec := fun args S => match args, S with
  | [.int .i64 n], [] => ⟨True, .bool (!plainB n), []⟩
  | _, _ => noSpec
theorem ok_areReadings1 : SpecOk Try.prog 126 s_notPlain := by
  intro args S h; unfold s_notPlain at h ⊢; (split at h <;> first | exact False.elim h | skip)
  dsimp only at h ⊢
  refine funW tabOk (E := [(50, s_within)]) ⟨ok_within, trivial⟩ [] (k := 0) (fn := Try.f126) rfl rfl rfl rfl rfl rfl ?_
  (repeat' ((try (conv => whnf)); first | (with_reducible first | refine And.intro ?_ ?_ | refine WX.of ?_) | exact zc | ((with_reducible refine VC.mk ?_); exact zw) | (with_reducible first | refine splitT ?_ | refine splitF ?_) | ((with_reducible refine splitM.mk (fun hsm => ?_) (fun hsm => ?_)) <;> (try exact zx)) | ((with_reducible refine splitB.mk (fun h => ?_) (fun h => ?_)) <;> (try simp only [zs, ne_eq] at h) <;> (try simp (disch := omega) only [w64] at h) <;> (try exact zx)) | (with_reducible intro hz; (try exact absurd hz (Nat.succ_ne_zero _)))))
/-- The first that is not plain. -/
def s_idxPlain (g : Nat) : Spec := fun args S => match args, S with
  | [.sl 0 s n x, .fn g' []], [.arr (.int .i64) l 1 wr] => ⟨g' = g ∧ s + n ≤ l.length ∧ n ≤ 4611686018427387904, .int .i64 (findI (fun a => !plainB a) (seg l s n)), [.arr (.int .i64) l 1 wr]⟩
  | _, _ => noSpec
theorem ok_idxPlain : SpecOk Try.prog 157 (s_idxPlain 126) := by
  intro args S h; unfold s_idxPlain at h ⊢; (split at h <;> first | exact False.elim h | skip)
  dsimp only at h ⊢
  rename_i s n x g l wr
  obtain ⟨rfl, h1, h2⟩ := h
  have hL := seg_len h1
  refine funW tabOk (E := [(126, s_notPlain)]) ⟨ok_areReadings1, trivial⟩ [] (k := 1) (fn := Try.f157) rfl rfl rfl rfl rfl rfl ?_
  (repeat' ((try (conv => whnf)); first | (with_reducible first | refine And.intro ?_ ?_ | refine WX.of ?_) | exact zc | ((with_reducible refine VC.mk ?_); exact zw) | (with_reducible first | refine splitT ?_ | refine splitF ?_) | ((with_reducible refine splitM.mk (fun hsm => ?_) (fun hsm => ?_)) <;> (try exact zx)) | ((with_reducible refine splitB.mk (fun h => ?_) (fun h => ?_)) <;> (try simp only [zs, ne_eq] at h) <;> (try simp (disch := omega) only [w64] at h) <;> (try exact zx)) | (with_reducible intro hz; (try exact absurd hz (Nat.succ_ne_zero _)))))
  refine loopW tabOk (E := [(126, s_notPlain)]) ⟨ok_areReadings1, trivial⟩ [] (σ := Nat) (fun i => [(0, .sl 0 s n x), (1, .fn 126 []), (7, .int .i64 n), (8, .int .i64 i)]) (fun i => [.arr (.int .i64) l 1 wr]) (fun i => n - i) (fun i => i ≤ n ∧ ∀ (j : Nat) a, j < i → (seg l s n)[j]? = some a → (!plainB a) = false) 0 ⟨Nat.zero_le _, fun j a hj => by omega⟩ ?_ ?_
  · (repeat' ((try (conv => whnf)); first | (with_reducible first | refine And.intro ?_ ?_ | refine WX.of ?_) | exact zc | ((with_reducible refine VC.mk ?_); exact zw) | (with_reducible first | refine splitT ?_ | refine splitF ?_) | ((with_reducible refine splitM.mk (fun hsm => ?_) (fun hsm => ?_)) <;> (try exact zx)) | ((with_reducible refine splitB.mk (fun h => ?_) (fun h => ?_)) <;> (try simp only [zs, ne_eq] at h) <;> (try simp (disch := omega) only [w64] at h) <;> (try exact zx)) | (with_reducible intro hz; (try exact absurd hz (Nat.succ_ne_zero _)))))
  · intro i ⟨hi, hp⟩
    by_cases hlt : i < n
    · obtain ⟨a, ha⟩ := get_some (l := seg l s n) (i := i) (by omega)
      (repeat' ((try (conv => whnf)); first | (with_reducible first | refine And.intro ?_ ?_ | refine WX.of ?_) | exact zc | ((with_reducible refine VC.mk ?_); exact zw) | refine atL_i ha ?_ | (with_reducible first | refine splitT ?_ | refine splitF ?_) | ((with_reducible refine splitM.mk (fun hsm => ?_) (fun hsm => ?_)) <;> (try exact zx)) | ((with_reducible refine splitB.mk (fun h => ?_) (fun h => ?_)) <;> (try simp only [zs, ne_eq] at h) <;> (try simp (disch := omega) only [w64] at h) <;> (try exact zx)) | (with_reducible intro hz; (try exact absurd hz (Nat.succ_ne_zero _)))))
      · exact ⟨by rw [findI_some ha (by simp [h]) hp]⟩
      · refine ⟨i + 1, by omega, ⟨hlt, upto_step ha (by simp [h]) hp⟩, ?_⟩
        (repeat' ((try (conv => whnf)); first | (with_reducible first | refine And.intro ?_ ?_ | refine WX.of ?_) | exact zc | ((with_reducible refine VC.mk ?_); exact zw) | (with_reducible first | refine splitT ?_ | refine splitF ?_) | ((with_reducible refine splitM.mk (fun hsm => ?_) (fun hsm => ?_)) <;> (try exact zx)) | ((with_reducible refine splitB.mk (fun h => ?_) (fun h => ?_)) <;> (try simp only [zs, ne_eq] at h) <;> (try simp (disch := omega) only [w64] at h) <;> (try exact zx)) | (with_reducible intro hz; (try exact absurd hz (Nat.succ_ne_zero _)))))
    · (repeat' ((try (conv => whnf)); first | (with_reducible first | refine And.intro ?_ ?_ | refine WX.of ?_) | exact zc | ((with_reducible refine VC.mk ?_); exact zw) | (with_reducible first | refine splitT ?_ | refine splitF ?_) | ((with_reducible refine splitM.mk (fun hsm => ?_) (fun hsm => ?_)) <;> (try exact zx)) | ((with_reducible refine splitB.mk (fun h => ?_) (fun h => ?_)) <;> (try simp only [zs, ne_eq] at h) <;> (try simp (disch := omega) only [w64] at h) <;> (try exact zx)) | (with_reducible intro hz; (try exact absurd hz (Nat.succ_ne_zero _)))))
      exact ⟨by rw [findI_none fun j a hj => hp j a (by have := (List.getElem?_eq_some_iff.1 hj).1; omega) hj]⟩
def s_anyPlain (g : Nat) : Spec := fun args S => match args, S with
  | [.sl 0 s n x, .fn g' []], [.arr (.int .i64) l 1 wr] => ⟨g' = g ∧ s + n ≤ l.length ∧ n ≤ 4611686018427387904, .bool ((seg l s n).any fun a => !plainB a), [.arr (.int .i64) l 1 wr]⟩
  | _, _ => noSpec
theorem ok_anyPlain : SpecOk Try.prog 109 (s_anyPlain 126) := by
  intro args S h; unfold s_anyPlain at h ⊢; (split at h <;> first | exact False.elim h | skip)
  dsimp only at h ⊢
  rename_i s n x g l wr
  obtain ⟨rfl, h1, h2⟩ := h
  refine funW tabOk (E := [(157, (s_idxPlain 126))]) ⟨ok_idxPlain, trivial⟩ [] (k := 1) (fn := Try.f109) rfl rfl rfl rfl rfl rfl ?_
  (repeat' ((try (conv => whnf)); first | (with_reducible first | refine And.intro ?_ ?_ | refine WX.of ?_) | exact zc | ((with_reducible refine VC.mk ?_); exact zw) | (with_reducible first | refine splitT ?_ | refine splitF ?_) | ((with_reducible refine splitM.mk (fun hsm => ?_) (fun hsm => ?_)) <;> (try exact zx)) | ((with_reducible refine splitB.mk (fun h => ?_) (fun h => ?_)) <;> (try simp only [zs, ne_eq] at h) <;> (try simp (disch := omega) only [w64] at h) <;> (try exact zx)) | (with_reducible intro hz; (try exact absurd hz (Nat.succ_ne_zero _)))))
  exact ⟨by rw [findI_any]⟩
/-- Readings. -/
def areB (L : List Int) : Bool := decide (1 ≤ L.length ∧ L.length ≤ 64) && L.all plainB
def s_are : Spec := fun args S => match args, S with
  | [.sl 0 s n x], [.arr (.int .i64) l 1 wr] => ⟨s + n ≤ l.length ∧ n ≤ 1048576, .bool (areB (seg l s n)), [.arr (.int .i64) l 1 wr]⟩
  | _, _ => noSpec
theorem ok_areReadings : SpecOk Try.prog 66 s_are := by
  intro args S h; unfold s_are at h ⊢; (split at h <;> first | exact False.elim h | skip)
  dsimp only at h ⊢
  rename_i s n x l wr
  have hL := seg_len h.1
  refine funW tabOk (E := [(125, s_count), (109, (s_anyPlain 126))]) ⟨ok_isCount, ok_anyPlain, trivial⟩ [] (k := 1) (fn := Try.f66) rfl rfl rfl rfl rfl rfl ?_
  (repeat' ((try (conv => whnf)); first | (with_reducible first | refine And.intro ?_ ?_ | refine WX.of ?_) | exact zc | ((with_reducible refine VC.mk ?_); exact zw) | (with_reducible first | refine splitT ?_ | refine splitF ?_) | ((with_reducible refine splitM.mk (fun hsm => ?_) (fun hsm => ?_)) <;> (try exact zx)) | ((with_reducible refine splitB.mk (fun h => ?_) (fun h => ?_)) <;> (try simp only [zs, ne_eq] at h) <;> (try simp (disch := omega) only [w64] at h) <;> (try exact zx)) | (with_reducible intro hz; (try exact absurd hz (Nat.succ_ne_zero _)))))
  · refine ⟨?_⟩
    unfold areB
    rw [hL, decide_eq_true (by omega), List.all_eq_not_any_not]; rfl
  · refine ⟨?_⟩
    unfold areB
    rw [hL, decide_eq_false (by omega)]; rfl
/-- The code of readings. -/
def areCode (L : List Int) : Int := if areB L = true then 0 else 2
def s_l06List : Spec := fun args S => match args, S with
  | [.sl 0 s n x], [.arr (.int .i64) l 1 wr] => ⟨s + n ≤ l.length ∧ n ≤ 1048576, .int .i64 (areCode (seg l s n)), [.arr (.int .i64) l 1 wr]⟩
  | _, _ => noSpec
theorem ok_l06List : SpecOk Try.prog 70 s_l06List := by
  intro args S h; unfold s_l06List at h ⊢; (split at h <;> first | exact False.elim h | skip)
  dsimp only at h ⊢
  rename_i s n x l wr
  have hL := seg_len h.1
  refine funW tabOk (E := [(129, s_count), (64, s_plain)]) ⟨ok_l06Many, ok_l06Plain, trivial⟩ [] (k := 1) (fn := Try.f70) rfl rfl rfl rfl rfl rfl ?_
  (repeat' ((try (conv => whnf)); first | (with_reducible first | refine And.intro ?_ ?_ | refine WX.of ?_) | exact zc | ((with_reducible refine VC.mk ?_); exact zw) | (with_reducible first | refine splitT ?_ | refine splitF ?_) | ((with_reducible refine splitM.mk (fun hsm => ?_) (fun hsm => ?_)) <;> (try exact zx)) | ((with_reducible refine splitB.mk (fun h => ?_) (fun h => ?_)) <;> (try simp only [zs, ne_eq] at h) <;> (try simp (disch := omega) only [w64] at h) <;> (try exact zx)) | (with_reducible intro hz; (try exact absurd hz (Nat.succ_ne_zero _)))))
  · refine ⟨?_⟩
    unfold areCode areB
    rw [hL, decide_eq_false (by omega)]; rfl
  · refine loopW tabOk (E := [(129, s_count), (64, s_plain)]) ⟨ok_l06Many, ok_l06Plain, trivial⟩ [] (σ := Nat) (fun i => [(0, .sl 0 s n x), (3, .int .i64 i)]) (fun i => [.arr (.int .i64) l 1 wr]) (fun i => n - i) (fun i => i ≤ n ∧ ∀ (j : Nat) a, j < i → (seg l s n)[j]? = some a → plainB a = true) 0 ⟨Nat.zero_le _, fun j a hj => by omega⟩ ?_ ?_
    · (repeat' ((try (conv => whnf)); first | (with_reducible first | refine And.intro ?_ ?_ | refine WX.of ?_) | exact zc | ((with_reducible refine VC.mk ?_); exact zw) | (with_reducible first | refine splitT ?_ | refine splitF ?_) | ((with_reducible refine splitM.mk (fun hsm => ?_) (fun hsm => ?_)) <;> (try exact zx)) | ((with_reducible refine splitB.mk (fun h => ?_) (fun h => ?_)) <;> (try simp only [zs, ne_eq] at h) <;> (try simp (disch := omega) only [w64] at h) <;> (try exact zx)) | (with_reducible intro hz; (try exact absurd hz (Nat.succ_ne_zero _)))))
    · intro i ⟨hi, hp⟩
      by_cases hlt : i < n
      · obtain ⟨a, ha⟩ := get_some (l := seg l s n) (i := i) (by omega)
        (repeat' ((try (conv => whnf)); first | (with_reducible first | refine And.intro ?_ ?_ | refine WX.of ?_) | exact zc | ((with_reducible refine VC.mk ?_); exact zw) | refine atL_i ha ?_ | (with_reducible first | refine splitT ?_ | refine splitF ?_) | ((with_reducible refine splitM.mk (fun hsm => ?_) (fun hsm => ?_)) <;> (try exact zx)) | ((with_reducible refine splitB.mk (fun h => ?_) (fun h => ?_)) <;> (try simp only [zs, ne_eq] at h) <;> (try simp (disch := omega) only [w64] at h) <;> (try exact zx)) | (with_reducible intro hz; (try exact absurd hz (Nat.succ_ne_zero _)))))
        · refine ⟨?_⟩
          unfold areCode areB
          rw [all_no ha h]; simp
        · refine ⟨i + 1, by omega, ⟨hlt, upto_step ha h hp⟩, ?_⟩
          (repeat' ((try (conv => whnf)); first | (with_reducible first | refine And.intro ?_ ?_ | refine WX.of ?_) | exact zc | ((with_reducible refine VC.mk ?_); exact zw) | (with_reducible first | refine splitT ?_ | refine splitF ?_) | ((with_reducible refine splitM.mk (fun hsm => ?_) (fun hsm => ?_)) <;> (try exact zx)) | ((with_reducible refine splitB.mk (fun h => ?_) (fun h => ?_)) <;> (try simp only [zs, ne_eq] at h) <;> (try simp (disch := omega) only [w64] at h) <;> (try exact zx)) | (with_reducible intro hz; (try exact absurd hz (Nat.succ_ne_zero _)))))
      · (repeat' ((try (conv => whnf)); first | (with_reducible first | refine And.intro ?_ ?_ | refine WX.of ?_) | exact zc | ((with_reducible refine VC.mk ?_); exact zw) | (with_reducible first | refine splitT ?_ | refine splitF ?_) | ((with_reducible refine splitM.mk (fun hsm => ?_) (fun hsm => ?_)) <;> (try exact zx)) | ((with_reducible refine splitB.mk (fun h => ?_) (fun h => ?_)) <;> (try simp only [zs, ne_eq] at h) <;> (try simp (disch := omega) only [w64] at h) <;> (try exact zx)) | (with_reducible intro hz; (try exact absurd hz (Nat.succ_ne_zero _)))))
        refine ⟨?_⟩
        unfold areCode areB
        rw [hL, decide_eq_true (by omega), all_yes (n := i) (by omega) hp]; rfl
theorem are_all {L : List Int} (h : areB L = true) {i : Nat} {a : Int} (ha : L[i]? = some a) : -1000000 ≤ a ∧ a ≤ 1000000 := by
  unfold areB at h
  simp only [Bool.and_eq_true] at h
  have := List.all_eq_true.1 h.2 a (List.mem_of_getElem? ha)
  simpa [plainB] using this
theorem are_len {L : List Int} (h : areB L = true) : 1 ≤ L.length ∧ L.length ≤ 64 := by
  unfold areB at h
  simp only [Bool.and_eq_true, decide_eq_true_eq] at h
  exact h.1
theorem code_0 {L : List Int} : areCode L = 0 ↔ areB L = true := by unfold areCode; split <;> simp_all
theorem code_2 {L : List Int} : areCode L ≠ 0 ↔ areB L = false := by unfold areCode; split <;> simp_all
def s_nfOk : Spec := fun args S => match args, S with
  | [.agg [.int .i64 p, .int .i64 q]], [] => ⟨True, .bool (!fOk p q), []⟩
  | _, _ => noSpec
theorem ok_areValid1 : SpecOk Try.prog 166 s_nfOk := by
  intro args S h; unfold s_nfOk at h ⊢; (split at h <;> first | exact False.elim h | skip)
  dsimp only at h ⊢
  refine funW tabOk (E := [(74, s_fOk)]) ⟨ok_ValidFrac, trivial⟩ [] (k := 0) (fn := Try.f166) rfl rfl rfl rfl rfl rfl ?_
  (repeat' ((try (conv => whnf)); first | (with_reducible first | refine And.intro ?_ ?_ | refine WX.of ?_) | exact zc | ((with_reducible refine VC.mk ?_); exact zw) | (with_reducible first | refine splitT ?_ | refine splitF ?_) | ((with_reducible refine splitM.mk (fun hsm => ?_) (fun hsm => ?_)) <;> (try exact zx)) | ((with_reducible refine splitB.mk (fun h => ?_) (fun h => ?_)) <;> (try simp only [zs, ne_eq] at h) <;> (try simp (disch := omega) only [w64] at h) <;> (try exact zx)) | (with_reducible intro hz; (try exact absurd hz (Nat.succ_ne_zero _)))))
def nfOk (a : Int × Int) : Bool := !fOk a.1 a.2
def s_idxF (g : Nat) : Spec := fun args S => match args, S with
  | [.sl 0 s n x, .fn g' []], [.arr (.prod (.int .i64) (.int .i64)) l 2 wr] => ⟨g' = g ∧ s + n ≤ l.length ∧ n ≤ 4611686018427387904, .int .i64 (findI nfOk (seg l s n)), [.arr (.prod (.int .i64) (.int .i64)) l 2 wr]⟩
  | _, _ => noSpec
theorem ok_idxF : SpecOk Try.prog 175 (s_idxF 166) := by
  intro args S h; unfold s_idxF at h ⊢; (split at h <;> first | exact False.elim h | skip)
  dsimp only at h ⊢
  rename_i s n x g l wr
  obtain ⟨rfl, h1, h2⟩ := h
  have hL := seg_len h1
  refine funW tabOk (E := [(166, s_nfOk)]) ⟨ok_areValid1, trivial⟩ [] (k := 1) (fn := Try.f175) rfl rfl rfl rfl rfl rfl ?_
  (repeat' ((try (conv => whnf)); first | (with_reducible first | refine And.intro ?_ ?_ | refine WX.of ?_) | exact zc | ((with_reducible refine VC.mk ?_); exact zw) | (with_reducible first | refine splitT ?_ | refine splitF ?_) | ((with_reducible refine splitM.mk (fun hsm => ?_) (fun hsm => ?_)) <;> (try exact zx)) | ((with_reducible refine splitB.mk (fun h => ?_) (fun h => ?_)) <;> (try simp only [zs, ne_eq] at h) <;> (try simp (disch := omega) only [w64] at h) <;> (try exact zx)) | (with_reducible intro hz; (try exact absurd hz (Nat.succ_ne_zero _)))))
  refine loopW tabOk (E := [(166, s_nfOk)]) ⟨ok_areValid1, trivial⟩ [] (σ := Nat) (fun i => [(0, .sl 0 s n x), (1, .fn 166 []), (7, .int .i64 n), (8, .int .i64 i)]) (fun i => [.arr (.prod (.int .i64) (.int .i64)) l 2 wr]) (fun i => n - i) (fun i => i ≤ n ∧ ∀ (j : Nat) a, j < i → (seg l s n)[j]? = some a → nfOk a = false) 0 ⟨Nat.zero_le _, fun j a hj => by omega⟩ ?_ ?_
  · (repeat' ((try (conv => whnf)); first | (with_reducible first | refine And.intro ?_ ?_ | refine WX.of ?_) | exact zc | ((with_reducible refine VC.mk ?_); exact zw) | (with_reducible first | refine splitT ?_ | refine splitF ?_) | ((with_reducible refine splitM.mk (fun hsm => ?_) (fun hsm => ?_)) <;> (try exact zx)) | ((with_reducible refine splitB.mk (fun h => ?_) (fun h => ?_)) <;> (try simp only [zs, ne_eq] at h) <;> (try simp (disch := omega) only [w64] at h) <;> (try exact zx)) | (with_reducible intro hz; (try exact absurd hz (Nat.succ_ne_zero _)))))
  · intro i ⟨hi, hp⟩
    by_cases hlt : i < n
    · obtain ⟨a, ha⟩ := get_some (l := seg l s n) (i := i) (by omega)
      (repeat' ((try (conv => whnf)); first | (with_reducible first | refine And.intro ?_ ?_ | refine WX.of ?_) | exact zc | ((with_reducible refine VC.mk ?_); exact zw) | refine atL_i ha ?_ | (with_reducible first | refine splitT ?_ | refine splitF ?_) | ((with_reducible refine splitM.mk (fun hsm => ?_) (fun hsm => ?_)) <;> (try exact zx)) | ((with_reducible refine splitB.mk (fun h => ?_) (fun h => ?_)) <;> (try simp only [zs, ne_eq] at h) <;> (try simp (disch := omega) only [w64] at h) <;> (try exact zx)) | (with_reducible intro hz; (try exact absurd hz (Nat.succ_ne_zero _)))))
      · exact ⟨by rw [findI_some ha (by simpa [nfOk] using h) hp]⟩
      · refine ⟨i + 1, by omega, ⟨hlt, upto_step ha (by simpa [nfOk] using h) hp⟩, ?_⟩
        (repeat' ((try (conv => whnf)); first | (with_reducible first | refine And.intro ?_ ?_ | refine WX.of ?_) | exact zc | ((with_reducible refine VC.mk ?_); exact zw) | (with_reducible first | refine splitT ?_ | refine splitF ?_) | ((with_reducible refine splitM.mk (fun hsm => ?_) (fun hsm => ?_)) <;> (try exact zx)) | ((with_reducible refine splitB.mk (fun h => ?_) (fun h => ?_)) <;> (try simp only [zs, ne_eq] at h) <;> (try simp (disch := omega) only [w64] at h) <;> (try exact zx)) | (with_reducible intro hz; (try exact absurd hz (Nat.succ_ne_zero _)))))
    · (repeat' ((try (conv => whnf)); first | (with_reducible first | refine And.intro ?_ ?_ | refine WX.of ?_) | exact zc | ((with_reducible refine VC.mk ?_); exact zw) | (with_reducible first | refine splitT ?_ | refine splitF ?_) | ((with_reducible refine splitM.mk (fun hsm => ?_) (fun hsm => ?_)) <;> (try exact zx)) | ((with_reducible refine splitB.mk (fun h => ?_) (fun h => ?_)) <;> (try simp only [zs, ne_eq] at h) <;> (try simp (disch := omega) only [w64] at h) <;> (try exact zx)) | (with_reducible intro hz; (try exact absurd hz (Nat.succ_ne_zero _)))))
      exact ⟨by rw [findI_none fun j a hj => hp j a (by have := (List.getElem?_eq_some_iff.1 hj).1; omega) hj]⟩
def s_anyF (g : Nat) : Spec := fun args S => match args, S with
  | [.sl 0 s n x, .fn g' []], [.arr (.prod (.int .i64) (.int .i64)) l 2 wr] => ⟨g' = g ∧ s + n ≤ l.length ∧ n ≤ 4611686018427387904, .bool ((seg l s n).any nfOk), [.arr (.prod (.int .i64) (.int .i64)) l 2 wr]⟩
  | _, _ => noSpec
theorem ok_anyF : SpecOk Try.prog 165 (s_anyF 166) := by
  intro args S h; unfold s_anyF at h ⊢; (split at h <;> first | exact False.elim h | skip)
  dsimp only at h ⊢
  rename_i s n x g l wr
  obtain ⟨rfl, h1, h2⟩ := h
  refine funW tabOk (E := [(175, (s_idxF 166))]) ⟨ok_idxF, trivial⟩ [] (k := 1) (fn := Try.f165) rfl rfl rfl rfl rfl rfl ?_
  (repeat' ((try (conv => whnf)); first | (with_reducible first | refine And.intro ?_ ?_ | refine WX.of ?_) | exact zc | ((with_reducible refine VC.mk ?_); exact zw) | (with_reducible first | refine splitT ?_ | refine splitF ?_) | ((with_reducible refine splitM.mk (fun hsm => ?_) (fun hsm => ?_)) <;> (try exact zx)) | ((with_reducible refine splitB.mk (fun h => ?_) (fun h => ?_)) <;> (try simp only [zs, ne_eq] at h) <;> (try simp (disch := omega) only [w64] at h) <;> (try exact zx)) | (with_reducible intro hz; (try exact absurd hz (Nat.succ_ne_zero _)))))
  exact ⟨by rw [findI_any]⟩
/-- Valid fractions. -/
def allF (L : List (Int × Int)) : Bool := L.all fun a => fOk a.1 a.2
def s_allF : Spec := fun args S => match args, S with
  | [.sl 0 s n x], [.arr (.prod (.int .i64) (.int .i64)) l 2 wr] => ⟨s + n ≤ l.length ∧ n ≤ 4611686018427387904, .bool (allF (seg l s n)), [.arr (.prod (.int .i64) (.int .i64)) l 2 wr]⟩
  | _, _ => noSpec
theorem ok_areValid : SpecOk Try.prog 133 s_allF := by
  intro args S h; unfold s_allF at h ⊢; (split at h <;> first | exact False.elim h | skip)
  dsimp only at h ⊢
  refine funW tabOk (E := [(165, (s_anyF 166))]) ⟨ok_anyF, trivial⟩ [] (k := 1) (fn := Try.f133) rfl rfl rfl rfl rfl rfl ?_
  (repeat' ((try (conv => whnf)); first | (with_reducible first | refine And.intro ?_ ?_ | refine WX.of ?_) | exact zc | ((with_reducible refine VC.mk ?_); exact zw) | (with_reducible first | refine splitT ?_ | refine splitF ?_) | ((with_reducible refine splitM.mk (fun hsm => ?_) (fun hsm => ?_)) <;> (try exact zx)) | ((with_reducible refine splitB.mk (fun h => ?_) (fun h => ?_)) <;> (try simp only [zs, ne_eq] at h) <;> (try simp (disch := omega) only [w64] at h) <;> (try exact zx)) | (with_reducible intro hz; (try exact absurd hz (Nat.succ_ne_zero _)))))
  all_goals (refine ⟨?_⟩; unfold allF; rw [List.all_eq_not_any_not]; rfl)
/-- A habit's bounds. -/
def guB (b u : Int) : Bool := decide ((-50 ≤ b ∧ b ≤ 50) ∧ 1 ≤ u ∧ u ≤ 20)
def s_guess : Spec := fun args S => match args, S with
  | [.agg [.int .i16 b, .int .i16 u, .bool up]], [] => ⟨(-32768 ≤ b ∧ b < 32768) ∧ -32768 ≤ u ∧ u < 32768, .bool (guB b u), []⟩
  | _, _ => noSpec
theorem ok_isGuess : SpecOk Try.prog 161 s_guess := by
  intro args S h; unfold s_guess at h ⊢; (split at h <;> first | exact False.elim h | skip)
  dsimp only at h ⊢
  refine funW tabOk (E := [(50, s_within)]) ⟨ok_within, trivial⟩ [] (k := 0) (fn := Try.f161) rfl rfl rfl rfl rfl rfl ?_
  (repeat' ((try (conv => whnf)); first | (with_reducible first | refine And.intro ?_ ?_ | refine WX.of ?_) | exact zc | ((with_reducible refine VC.mk ?_); exact zw) | (with_reducible first | refine splitT ?_ | refine splitF ?_) | ((with_reducible refine splitM.mk (fun hsm => ?_) (fun hsm => ?_)) <;> (try exact zx)) | ((with_reducible refine splitB.mk (fun h => ?_) (fun h => ?_)) <;> (try simp only [zs, ne_eq] at h) <;> (try simp (disch := omega) only [w64] at h) <;> (try exact zx)) | (with_reducible intro hz; (try exact absurd hz (Nat.succ_ne_zero _)))))
  all_goals (refine ⟨congrArg SV.bool ?_⟩; (try dsimp only); (try simp (disch := omega) only [w64]); rw [Bool.eq_iff_iff]; try (simp [guB]); try omega)
theorem ok_l06Guess : SpecOk Try.prog 120 s_guess := by
  intro args S h; unfold s_guess at h ⊢; (split at h <;> first | exact False.elim h | skip)
  dsimp only at h ⊢
  refine funW tabOk (E := [(105, s_within)]) ⟨ok_l00In, trivial⟩ [] (k := 0) (fn := Try.f120) rfl rfl rfl rfl rfl rfl ?_
  (repeat' ((try (conv => whnf)); first | (with_reducible first | refine And.intro ?_ ?_ | refine WX.of ?_) | exact zc | ((with_reducible refine VC.mk ?_); exact zw) | (with_reducible first | refine splitT ?_ | refine splitF ?_) | ((with_reducible refine splitM.mk (fun hsm => ?_) (fun hsm => ?_)) <;> (try exact zx)) | ((with_reducible refine splitB.mk (fun h => ?_) (fun h => ?_)) <;> (try simp only [zs, ne_eq] at h) <;> (try simp (disch := omega) only [w64] at h) <;> (try exact zx)) | (with_reducible intro hz; (try exact absurd hz (Nat.succ_ne_zero _)))))
  all_goals (refine ⟨congrArg SV.bool ?_⟩; (try dsimp only); (try simp (disch := omega) only [w64]); rw [Bool.eq_iff_iff]; try (simp [guB]); try omega)
def s_habit : Spec := fun args S => match args, S with
  | [.agg [.str nm, .int .i16 b, .int .i16 u, .bool up]], [] => ⟨True, .agg [.int .i16 b, .int .i16 u, .bool up], []⟩
  | _, _ => noSpec
theorem ok_habit : SpecOk Try.prog 162 s_habit := by
  intro args S h; unfold s_habit at h ⊢; (split at h <;> first | exact False.elim h | skip)
  dsimp only at h ⊢
  refine funW tabOk (E := []) trivial [] (k := 0) (fn := Try.f162) rfl rfl rfl rfl rfl rfl ?_
  (repeat' ((try (conv => whnf)); first | (with_reducible first | refine And.intro ?_ ?_ | refine WX.of ?_) | exact zc | ((with_reducible refine VC.mk ?_); exact zw) | (with_reducible first | refine splitT ?_ | refine splitF ?_) | ((with_reducible refine splitM.mk (fun hsm => ?_) (fun hsm => ?_)) <;> (try exact zx)) | ((with_reducible refine splitB.mk (fun h => ?_) (fun h => ?_)) <;> (try simp only [zs, ne_eq] at h) <;> (try simp (disch := omega) only [w64] at h) <;> (try exact zx)) | (with_reducible intro hz; (try exact absurd hz (Nat.succ_ne_zero _)))))
/-- A reader by its pointer. -/
def s_l06Habit : Spec := fun args S => match args, S with
  | [.ptr 0 i 0], [.arr (.prod .str (.prod (.int .i16) (.prod (.int .i16) .bool))) l sz wr] => ⟨i < l.length, .agg [.int .i16 ((l[i]?).getD ([], 0, 0, false)).2.1, .int .i16 ((l[i]?).getD ([], 0, 0, false)).2.2.1, .bool ((l[i]?).getD ([], 0, 0, false)).2.2.2], [.arr (.prod .str (.prod (.int .i16) (.prod (.int .i16) .bool))) l sz wr]⟩
  | _, _ => noSpec
theorem ok_l06Habit : SpecOk Try.prog 63 s_l06Habit := by
  intro args S h; unfold s_l06Habit at h ⊢; (split at h <;> first | exact False.elim h | skip)
  dsimp only at h ⊢
  rename_i i l sz wr
  obtain ⟨a, ha⟩ := get_some h
  refine funW tabOk (E := []) trivial [] (k := 1) (fn := Try.f63) rfl rfl rfl rfl rfl rfl ?_
  (repeat' ((try (conv => whnf)); first | (with_reducible first | refine And.intro ?_ ?_ | refine WX.of ?_) | exact zc | ((with_reducible refine VC.mk ?_); exact zw) | refine atL_p ha ?_ | (with_reducible first | refine splitT ?_ | refine splitF ?_) | ((with_reducible refine splitM.mk (fun hsm => ?_) (fun hsm => ?_)) <;> (try exact zx)) | ((with_reducible refine splitB.mk (fun h => ?_) (fun h => ?_)) <;> (try simp only [zs, ne_eq] at h) <;> (try simp (disch := omega) only [w64] at h) <;> (try exact zx)) | (with_reducible intro hz; (try exact absurd hz (Nat.succ_ne_zero _)))))
  exact ⟨by rw [ha]; rfl⟩
theorem floor_t {a b : Int} (hb : 0 < b) : (a.tmod b < 0 → a.tdiv b - 1 = a / b ∧ a < 0 ∧ a / b < 0) ∧ (0 ≤ a.tmod b → a.tdiv b = a / b) ∧ (a < 0 → a.tmod b ≤ 0) := by
  have h1 := Int.tdiv_eq_ediv (a := a) (b := b)
  have h2 := Int.tmod_eq_emod (a := a) (b := b)
  have h3 := Int.emod_nonneg a (show b ≠ 0 by omega)
  have h4 := Int.emod_lt_of_pos a hb
  have hs : b.sign = 1 := Int.sign_eq_one_of_pos hb
  rw [hs] at h1
  have h7 : a < 0 → a / b < 0 := fun h => Int.ediv_neg_of_neg_of_pos h hb
  split at h1
  · rename_i h
    rw [if_pos h] at h2
    refine ⟨by omega, by omega, fun h5 => ?_⟩
    have h6 : b ∣ a := by rcases h with h | h; omega; exact h
    have := Int.emod_eq_zero_of_dvd h6
    omega
  · rename_i h
    rw [if_neg h] at h2
    have : a < 0 := by apply Classical.byContradiction; intro h9; exact h (.inl (by omega))
    have := h7 this
    omega
theorem ediv_b {a b M : Int} (hb : 0 < b) (h : -M ≤ a ∧ a ≤ M) : -M ≤ a / b ∧ a / b ≤ M := ediv_small hb h
def s_floor : Spec := fun args S => match args, S with
  | [.int .i64 a, .int .i64 b], [] => ⟨0 < b ∧ b < 9223372036854775808 ∧ -9223372036854775807 ≤ a ∧ a ≤ 9223372036854775807, .int .i64 (a / b), []⟩
  | _, _ => noSpec
theorem ok_l01Down : SpecOk Try.prog 121 s_floor := by
  intro args S h; unfold s_floor at h ⊢; (split at h <;> first | exact False.elim h | skip)
  dsimp only at h ⊢
  rename_i a b
  have ht := floor_t (a := a) h.1
  have hq := ediv_b h.1 h.2.2
  refine funW tabOk (E := []) trivial [] (k := 0) (fn := Try.f121) rfl rfl rfl rfl rfl rfl ?_
  (repeat' ((try (conv => whnf)); first | (with_reducible first | refine And.intro ?_ ?_ | refine WX.of ?_) | exact zc | ((with_reducible refine VC.mk ?_); exact zw) | (with_reducible first | refine splitT ?_ | refine splitF ?_) | ((with_reducible refine splitM.mk (fun hsm => ?_) (fun hsm => ?_)) <;> (try exact zx)) | ((with_reducible refine splitB.mk (fun h => ?_) (fun h => ?_)) <;> (try simp only [zs, ne_eq] at h) <;> (try simp (disch := omega) only [w64] at h) <;> (try exact zx)) | (with_reducible intro hz; (try exact absurd hz (Nat.succ_ne_zero _)))))
/-- What a habit reads of a value. -/
def rdN (b u : Int) (up : Bool) (p q : Int) : Int :=
  if up = true then u * ((2 * (p + b * q) + u * q) / (2 * (u * q))) else -u * ((u * q - 2 * (p + b * q)) / (2 * (u * q)))
def gB (b u : Int) : Prop := (-50 ≤ b ∧ b ≤ 50) ∧ 1 ≤ u ∧ u ≤ 20
theorem gB_iff {b u : Int} : guB b u = true ↔ gB b u := by simp [guB, gB]
def s_l06Read : Spec := fun args S => match args, S with
  | [.agg [.int .i16 b, .int .i16 u, .bool up], .agg [.int .i64 p, .int .i64 q]], [] => ⟨gB b u ∧ smF p q, .int .i64 (rdN b u up p q), []⟩
  | _, _ => noSpec
/-- Bounds of what is read. -/
theorem rd_b {b u p q : Int} (h1 : gB b u) (h2 : smF p q) : (-50000000000 ≤ b * q ∧ b * q ≤ 50000000000) ∧ (1 ≤ u * q ∧ u * q ≤ 20000000000) ∧
    (-300000000000 ≤ (2 * (p + b * q) + u * q) / (2 * (u * q)) ∧ (2 * (p + b * q) + u * q) / (2 * (u * q)) ≤ 300000000000) ∧
    (-300000000000 ≤ (u * q - 2 * (p + b * q)) / (2 * (u * q)) ∧ (u * q - 2 * (p + b * q)) / (2 * (u * q)) ≤ 300000000000) ∧
    (-6000000000000 ≤ u * ((2 * (p + b * q) + u * q) / (2 * (u * q))) ∧ u * ((2 * (p + b * q) + u * q) / (2 * (u * q))) ≤ 6000000000000) ∧
    (-6000000000000 ≤ u * ((u * q - 2 * (p + b * q)) / (2 * (u * q))) ∧ u * ((u * q - 2 * (p + b * q)) / (2 * (u * q))) ≤ 6000000000000) := by
  unfold gB at h1; unfold smF at h2
  have e1 : -50000000000 ≤ b * q ∧ b * q ≤ 50000000000 := by
    have h3 : b.natAbs ≤ 50 := by omega
    have h4 : q.natAbs ≤ 1000000000 := by omega
    have h5 := Nat.mul_le_mul h3 h4
    rw [← Int.natAbs_mul] at h5; omega
  have e2 : 1 ≤ u * q ∧ u * q ≤ 20000000000 := by
    refine ⟨mulPos h1.2.1 h2.2.1, ?_⟩
    have := Int.mul_le_mul h1.2.2 h2.2.2 (by omega) (by omega); omega
  have e3 := ediv_small (p := 2 * (p + b * q) + u * q) (g := 2 * (u * q)) (M := 300000000000) (by omega) (by omega)
  have e4 := ediv_small (p := u * q - 2 * (p + b * q)) (g := 2 * (u * q)) (M := 300000000000) (by omega) (by omega)
  have e5 : ∀ x : Int, -300000000000 ≤ x ∧ x ≤ 300000000000 → -6000000000000 ≤ u * x ∧ u * x ≤ 6000000000000 := fun x hx => by
    have h3 : u.natAbs ≤ 20 := by omega
    have h4 : x.natAbs ≤ 300000000000 := by omega
    have h5 := Nat.mul_le_mul h3 h4
    rw [← Int.natAbs_mul] at h5; omega
  exact ⟨e1, e2, e3, e4, e5 _ e3, e5 _ e4⟩
theorem ok_l06Read : SpecOk Try.prog 62 s_l06Read := by
  intro args S h; unfold s_l06Read at h ⊢; (split at h <;> first | exact False.elim h | skip)
  dsimp only at h ⊢
  rename_i b u up p q
  have hb := rd_b h.1 h.2
  have hq := h.1
  have hf := h.2
  unfold gB at hq
  unfold smF at hf
  refine funW tabOk (E := [(121, s_floor)]) ⟨ok_l01Down, trivial⟩ [(4, [(1, 1)]), (5, [(1, 1)])] (k := 0) (fn := Try.f62) rfl rfl rfl rfl rfl rfl ?_
  (repeat' ((try (conv => whnf)); first | (with_reducible first | refine And.intro ?_ ?_ | refine WX.of ?_) | exact zc | ((with_reducible refine VC.mk ?_); exact zw) | ((with_reducible refine VC.mk ?_); simp (disch := omega) only [w64]; first  |  done  |  omega  |  (refine ⟨?_, ?_, ?_⟩ <;> first  |  trivial  |  omega)) | (with_reducible first | refine splitT ?_ | refine splitF ?_) | ((with_reducible refine splitM.mk (fun hsm => ?_) (fun hsm => ?_)) <;> (try exact zx)) | ((with_reducible refine splitB.mk (fun h => ?_) (fun h => ?_)) <;> (try simp only [zs, ne_eq] at h) <;> (try simp (disch := omega) only [w64] at h) <;> (try exact zx)) | (with_reducible intro hz; (try exact absurd hz (Nat.succ_ne_zero _)))))
  all_goals
    refine ⟨?_⟩
    simp (disch := omega) only [w64, Int.zero_sub, Int.neg_mul]
    simp [rdN, h, Int.neg_mul]
/-- A name of 1 to 12 letters. -/
def letB (c : UInt8) : Bool := decide (97 ≤ c.toNat ∧ c.toNat ≤ 122)
def wordB (s : List UInt8) : Bool := decide (1 ≤ s.length ∧ s.length ≤ 12) && s.all letB
def s_word : Spec := fun args S => match args, S with
  | [.str s], [] => ⟨s.length ≤ 9223372036854775807, .bool (wordB s), []⟩
  | _, _ => noSpec
theorem word_no {s : List UInt8} {i : Nat} {c : UInt8} (h : s[i]? = some c) (hc : letB c = false) : wordB s = false := by
  unfold wordB
  have : s.all letB = false := by
    rw [List.all_eq_false]
    exact ⟨c, List.mem_of_getElem? h, by simp [hc]⟩
  rw [this]; simp
theorem word_all {s : List UInt8} (h : ∀ (j : Nat) c, s[j]? = some c → letB c = true) : s.all letB = true := by
  rw [List.all_eq_true]
  intro c hc
  obtain ⟨j, hj⟩ := List.getElem?_of_mem hc
  exact h j c hj
theorem ok_isWord : SpecOk Try.prog 154 s_word := by
  intro args S h; unfold s_word at h ⊢; (split at h <;> first | exact False.elim h | skip)
  dsimp only at h ⊢
  rename_i s
  refine funW tabOk (E := [(50, s_within)]) ⟨ok_within, trivial⟩ [] (k := 0) (fn := Try.f154) rfl rfl rfl rfl rfl rfl ?_
  (repeat' ((try (conv => whnf)); first | (with_reducible first | refine And.intro ?_ ?_ | refine WX.of ?_) | exact zc | ((with_reducible refine VC.mk ?_); exact zw) | (with_reducible first | refine splitT ?_ | refine splitF ?_) | ((with_reducible refine splitM.mk (fun hsm => ?_) (fun hsm => ?_)) <;> (try exact zx)) | ((with_reducible refine splitB.mk (fun h => ?_) (fun h => ?_)) <;> (try simp only [zs, ne_eq] at h) <;> (try simp (disch := omega) only [w64] at h) <;> (try exact zx)) | (with_reducible intro hz; (try exact absurd hz (Nat.succ_ne_zero _)))))
  refine loopW tabOk (E := [(50, s_within)]) ⟨ok_within, trivial⟩ [] (σ := Nat) (fun i => [(0, .str s), (5, .int .i64 s.length), (6, .int .i64 i)]) (fun i => []) (fun i => s.length - i) (fun i => i ≤ s.length ∧ ∀ (j : Nat) c, j < i → s[j]? = some c → letB c = true) 0 ⟨Nat.zero_le _, fun j a hj => by omega⟩ ?_ ?_
  · (repeat' ((try (conv => whnf)); first | (with_reducible first | refine And.intro ?_ ?_ | refine WX.of ?_) | exact zc | ((with_reducible refine VC.mk ?_); exact zw) | (with_reducible first | refine splitT ?_ | refine splitF ?_) | ((with_reducible refine splitM.mk (fun hsm => ?_) (fun hsm => ?_)) <;> (try exact zx)) | ((with_reducible refine splitB.mk (fun h => ?_) (fun h => ?_)) <;> (try simp only [zs, ne_eq] at h) <;> (try simp (disch := omega) only [w64] at h) <;> (try exact zx)) | (with_reducible intro hz; (try exact absurd hz (Nat.succ_ne_zero _)))))
  · intro i ⟨hi, hp⟩
    by_cases hlt : i < s.length
    · obtain ⟨c, hc⟩ := get_some (l := s) (i := i) (by omega)
      (repeat' ((try (conv => whnf)); first | (with_reducible first | refine And.intro ?_ ?_ | refine WX.of ?_) | exact zc | ((with_reducible refine VC.mk ?_); exact zw) | refine atL_n hc ?_ | (with_reducible first | refine splitT ?_ | refine splitF ?_) | ((with_reducible refine splitM.mk (fun hsm => ?_) (fun hsm => ?_)) <;> (try exact zx)) | ((with_reducible refine splitB.mk (fun h => ?_) (fun h => ?_)) <;> (try simp only [zs, ne_eq] at h) <;> (try simp (disch := omega) only [w64] at h) <;> (try exact zx)) | (with_reducible intro hz; (try exact absurd hz (Nat.succ_ne_zero _)))))
      · exact ⟨by rw [word_no hc (by unfold letB; rw [decide_eq_false]; omega)]⟩
      · exact ⟨by rw [word_no hc (by unfold letB; rw [decide_eq_false]; omega)]⟩
      · refine ⟨i + 1, by omega, ⟨hlt, upto_step hc (by unfold letB; rw [decide_eq_true]; omega) hp⟩, ?_⟩
        (repeat' ((try (conv => whnf)); first | (with_reducible first | refine And.intro ?_ ?_ | refine WX.of ?_) | exact zc | ((with_reducible refine VC.mk ?_); exact zw) | (with_reducible first | refine splitT ?_ | refine splitF ?_) | ((with_reducible refine splitM.mk (fun hsm => ?_) (fun hsm => ?_)) <;> (try exact zx)) | ((with_reducible refine splitB.mk (fun h => ?_) (fun h => ?_)) <;> (try simp only [zs, ne_eq] at h) <;> (try simp (disch := omega) only [w64] at h) <;> (try exact zx)) | (with_reducible intro hz; (try exact absurd hz (Nat.succ_ne_zero _)))))
    · (repeat' ((try (conv => whnf)); first | (with_reducible first | refine And.intro ?_ ?_ | refine WX.of ?_) | exact zc | ((with_reducible refine VC.mk ?_); exact zw) | (with_reducible first | refine splitT ?_ | refine splitF ?_) | ((with_reducible refine splitM.mk (fun hsm => ?_) (fun hsm => ?_)) <;> (try exact zx)) | ((with_reducible refine splitB.mk (fun h => ?_) (fun h => ?_)) <;> (try simp only [zs, ne_eq] at h) <;> (try simp (disch := omega) only [w64] at h) <;> (try exact zx)) | (with_reducible intro hz; (try exact absurd hz (Nat.succ_ne_zero _)))))
      have ha := word_all fun j c hj => hp j c (by have := (List.getElem?_eq_some_iff.1 hj).1; omega) hj
      refine ⟨congrArg SV.bool ?_⟩
      unfold wordB; rw [ha, Bool.and_true, decide_eq_decide]; omega
theorem ok_l05Name : SpecOk Try.prog 103 s_word := by
  intro args S h; unfold s_word at h ⊢; (split at h <;> first | exact False.elim h | skip)
  dsimp only at h ⊢
  rename_i s
  refine funW tabOk (E := []) trivial [] (k := 0) (fn := Try.f103) rfl rfl rfl rfl rfl rfl ?_
  (repeat' ((try (conv => whnf)); first | (with_reducible first | refine And.intro ?_ ?_ | refine WX.of ?_) | exact zc | ((with_reducible refine VC.mk ?_); exact zw) | (with_reducible first | refine splitT ?_ | refine splitF ?_) | ((with_reducible refine splitM.mk (fun hsm => ?_) (fun hsm => ?_)) <;> (try exact zx)) | ((with_reducible refine splitB.mk (fun h => ?_) (fun h => ?_)) <;> (try simp only [zs, ne_eq] at h) <;> (try simp (disch := omega) only [w64] at h) <;> (try exact zx)) | (with_reducible intro hz; (try exact absurd hz (Nat.succ_ne_zero _)))))
  · refine ⟨congrArg SV.bool ?_⟩; unfold wordB; rw [decide_eq_false (by omega)]; rfl
  · refine ⟨congrArg SV.bool ?_⟩; unfold wordB; rw [decide_eq_false (by omega)]; rfl
  · refine loopW tabOk (E := []) trivial [] (σ := Nat) (fun i => [(0, .str s), (3, .int .i64 i)]) (fun i => []) (fun i => s.length - i) (fun i => i ≤ s.length ∧ ∀ (j : Nat) c, j < i → s[j]? = some c → letB c = true) 0 ⟨Nat.zero_le _, fun j a hj => by omega⟩ ?_ ?_
    · (repeat' ((try (conv => whnf)); first | (with_reducible first | refine And.intro ?_ ?_ | refine WX.of ?_) | exact zc | ((with_reducible refine VC.mk ?_); exact zw) | (with_reducible first | refine splitT ?_ | refine splitF ?_) | ((with_reducible refine splitM.mk (fun hsm => ?_) (fun hsm => ?_)) <;> (try exact zx)) | ((with_reducible refine splitB.mk (fun h => ?_) (fun h => ?_)) <;> (try simp only [zs, ne_eq] at h) <;> (try simp (disch := omega) only [w64] at h) <;> (try exact zx)) | (with_reducible intro hz; (try exact absurd hz (Nat.succ_ne_zero _)))))
    · intro i ⟨hi, hp⟩
      by_cases hlt : i < s.length
      · obtain ⟨c, hc⟩ := get_some (l := s) (i := i) (by omega)
        (repeat' ((try (conv => whnf)); first | (with_reducible first | refine And.intro ?_ ?_ | refine WX.of ?_) | exact zc | ((with_reducible refine VC.mk ?_); exact zw) | refine atL_n hc ?_ | (with_reducible first | refine splitT ?_ | refine splitF ?_) | ((with_reducible refine splitM.mk (fun hsm => ?_) (fun hsm => ?_)) <;> (try exact zx)) | ((with_reducible refine splitB.mk (fun h => ?_) (fun h => ?_)) <;> (try simp only [zs, ne_eq] at h) <;> (try simp (disch := omega) only [w64] at h) <;> (try exact zx)) | (with_reducible intro hz; (try exact absurd hz (Nat.succ_ne_zero _)))))
        · exact ⟨by rw [word_no hc (by unfold letB; rw [decide_eq_false]; omega)]⟩
        · exact ⟨by rw [word_no hc (by unfold letB; rw [decide_eq_false]; omega)]⟩
        · refine ⟨i + 1, by omega, ⟨hlt, upto_step hc (by unfold letB; rw [decide_eq_true]; omega) hp⟩, ?_⟩
          (repeat' ((try (conv => whnf)); first | (with_reducible first | refine And.intro ?_ ?_ | refine WX.of ?_) | exact zc | ((with_reducible refine VC.mk ?_); exact zw) | (with_reducible first | refine splitT ?_ | refine splitF ?_) | ((with_reducible refine splitM.mk (fun hsm => ?_) (fun hsm => ?_)) <;> (try exact zx)) | ((with_reducible refine splitB.mk (fun h => ?_) (fun h => ?_)) <;> (try simp only [zs, ne_eq] at h) <;> (try simp (disch := omega) only [w64] at h) <;> (try exact zx)) | (with_reducible intro hz; (try exact absurd hz (Nat.succ_ne_zero _)))))
      · (repeat' ((try (conv => whnf)); first | (with_reducible first | refine And.intro ?_ ?_ | refine WX.of ?_) | exact zc | ((with_reducible refine VC.mk ?_); exact zw) | (with_reducible first | refine splitT ?_ | refine splitF ?_) | ((with_reducible refine splitM.mk (fun hsm => ?_) (fun hsm => ?_)) <;> (try exact zx)) | ((with_reducible refine splitB.mk (fun h => ?_) (fun h => ?_)) <;> (try simp only [zs, ne_eq] at h) <;> (try simp (disch := omega) only [w64] at h) <;> (try exact zx)) | (with_reducible intro hz; (try exact absurd hz (Nat.succ_ne_zero _)))))
        have ha := word_all fun j c hj => hp j c (by have := (List.getElem?_eq_some_iff.1 hj).1; omega) hj
        refine ⟨congrArg SV.bool ?_⟩
        unfold wordB; rw [ha, Bool.and_true, decide_eq_true (by omega)]
/-- A valid reader. -/
def rdrB (nm : List UInt8) (b u : Int) : Bool := wordB nm && guB b u
def s_vReader : Spec := fun args S => match args, S with
  | [.agg [.str nm, .int .i16 b, .int .i16 u, .bool up]], [] => ⟨nm.length ≤ 9223372036854775807 ∧ (-32768 ≤ b ∧ b < 32768) ∧ -32768 ≤ u ∧ u < 32768, .bool (rdrB nm b u), []⟩
  | _, _ => noSpec
theorem ok_ValidReader : SpecOk Try.prog 124 s_vReader := by
  intro args S h; unfold s_vReader at h ⊢; (split at h <;> first | exact False.elim h | skip)
  dsimp only at h ⊢
  refine funW tabOk (E := [(154, s_word), (162, s_habit), (161, s_guess)]) ⟨ok_isWord, ok_habit, ok_isGuess, trivial⟩ [] (k := 0) (fn := Try.f124) rfl rfl rfl rfl rfl rfl ?_
  (repeat' ((try (conv => whnf)); first | (with_reducible first | refine And.intro ?_ ?_ | refine WX.of ?_) | exact zc | ((with_reducible refine VC.mk ?_); exact zw) | (with_reducible first | refine splitT ?_ | refine splitF ?_) | ((with_reducible refine splitM.mk (fun hsm => ?_) (fun hsm => ?_)) <;> (try exact zx)) | ((with_reducible refine splitB.mk (fun h => ?_) (fun h => ?_)) <;> (try simp only [zs, ne_eq] at h) <;> (try simp (disch := omega) only [w64] at h) <;> (try exact zx)) | (with_reducible intro hz; (try exact absurd hz (Nat.succ_ne_zero _)))))
  all_goals (refine ⟨?_⟩; simp [rdrB, h])
/-- A valid reader by its pointer. -/
def rdrOk (a : List UInt8 × Int × Int × Bool) : Bool := rdrB a.1 a.2.1 a.2.2.1
def rdrGood (a : List UInt8 × Int × Int × Bool) : Prop := a.1.length ≤ 9223372036854775807 ∧ (-32768 ≤ a.2.1 ∧ a.2.1 < 32768) ∧ -32768 ≤ a.2.2.1 ∧ a.2.2.1 < 32768
def s_l06Ok : Spec := fun args S => match args, S with
  | [.ptr 0 i 0], [.arr (.prod .str (.prod (.int .i16) (.prod (.int .i16) .bool))) l sz wr] => ⟨i < l.length ∧ ∀ (j : Nat) a, l[j]? = some a → rdrGood a, .bool (rdrOk ((l[i]?).getD ([], 0, 0, false))), [.arr (.prod .str (.prod (.int .i16) (.prod (.int .i16) .bool))) l sz wr]⟩
  | _, _ => noSpec
theorem ok_l06Ok : SpecOk Try.prog 60 s_l06Ok := by
  intro args S h; unfold s_l06Ok at h ⊢; (split at h <;> first | exact False.elim h | skip)
  dsimp only at h ⊢
  rename_i i l sz wr
  obtain ⟨⟨nm, b, u, up⟩, ha⟩ := get_some h.1
  have hg : rdrGood (nm, b, u, up) := h.2 _ _ ha
  have e : (l[i]?).getD ([], 0, 0, false) = (nm, b, u, up) := by rw [ha]; rfl
  rw [e]
  unfold rdrGood at hg
  dsimp only at hg
  refine funW tabOk (E := [(103, s_word), (63, s_l06Habit), (120, s_guess)]) ⟨ok_l05Name, ok_l06Habit, ok_l06Guess, trivial⟩ [] (k := 1) (fn := Try.f60) rfl rfl rfl rfl rfl rfl ?_
  (repeat' ((try (conv => whnf)); first | (with_reducible first | refine And.intro ?_ ?_ | refine WX.of ?_) | exact zc | ((with_reducible refine VC.mk ?_); exact zw) | refine atL_p ha ?_ | (with_reducible first | refine splitT ?_ | refine splitF ?_) | ((with_reducible refine splitM.mk (fun hsm => ?_) (fun hsm => ?_)) <;> (try exact zx)) | ((with_reducible refine splitB.mk (fun h => ?_) (fun h => ?_)) <;> (try simp only [zs, ne_eq] at h) <;> (try simp (disch := omega) only [w64] at h) <;> (try exact zx)) | (with_reducible intro hz; (try exact absurd hz (Nat.succ_ne_zero _)))))
  · refine ⟨?_⟩; rw [e]; exact hg.2
  · refine ⟨?_⟩; rw [e]; simp [rdrOk, rdrB, h]
  · refine ⟨?_⟩; simp [rdrOk, rdrB, h]
def rdCode (nm : List UInt8) (b u : Int) (up : Bool) (p q : Int) : Int := if (rdrB nm b u && fOk p q) = true then (if decide (-1000000 ≤ rdN b u up p q ∧ rdN b u up p q ≤ 1000000) = true then 0 else 2) else 1
def rdVal (nm : List UInt8) (b u : Int) (up : Bool) (p q : Int) : Int := if rdCode nm b u up p q = 0 then rdN b u up p q else 0
def s_ReadingOf : Spec := fun args S => match args, S with
  | [.agg [.str nm, .int .i16 b, .int .i16 u, .bool up], .agg [.int .i64 p, .int .i64 q]], [] => ⟨nm.length ≤ 9223372036854775807 ∧ (-32768 ≤ b ∧ b < 32768) ∧ -32768 ≤ u ∧ u < 32768, .tup [.int .i64 (rdVal nm b u up p q), .int .i64 (rdCode nm b u up p q)], []⟩
  | _, _ => noSpec
theorem ok_ReadingOfS : SpecOk Try.prog 20 s_ReadingOf := by
  intro args S h; unfold s_ReadingOf at h ⊢; (split at h <;> first | exact False.elim h | skip)
  dsimp only at h ⊢
  rename_i nm b u up p q
  refine funW tabOk (E := [(60, s_l06Ok), (61, s_fOk), (63, s_l06Habit), (62, s_l06Read), (64, s_plain)]) ⟨ok_l06Ok, ok_l01Ok, ok_l06Habit, ok_l06Read, ok_l06Plain, trivial⟩ [(3, [(1, 0)])] (k := 0) (fn := Try.f20) rfl rfl rfl rfl rfl rfl ?_
  (repeat' ((try (conv => whnf)); first | (with_reducible first | refine And.intro ?_ ?_ | refine WX.of ?_) | exact zc | ((with_reducible refine VC.mk ?_); exact zw) | (with_reducible first | refine splitT ?_ | refine splitF ?_) | ((with_reducible refine splitM.mk (fun hsm => ?_) (fun hsm => ?_)) <;> (try exact zx)) | ((with_reducible refine splitB.mk (fun h => ?_) (fun h => ?_)) <;> (try simp only [zs, ne_eq] at h) <;> (try simp (disch := omega) only [w64] at h) <;> (try exact zx)) | (with_reducible intro hz; (try exact absurd hz (Nat.succ_ne_zero _)))))
  · refine ⟨⟨Nat.zero_lt_one, fun j a ha => ?_⟩⟩
    match j with
    | 0 => obtain rfl := Option.some.inj ha; exact h
    | j + 1 => simp at ha
  · have hr : rdrB nm b u = false := h
    refine ⟨?_⟩; simp [rdVal, rdCode, hr]
  · refine ⟨?_⟩; simp [rdVal, rdCode, h]
  · rename_i hr
    have hr : rdrB nm b u = true := hr
    simp only [rdrB, Bool.and_eq_true] at hr
    exact ⟨⟨gB_iff.1 hr.2, smF_ok h⟩⟩
  · rename_i hr hf
    have hr : rdrB nm b u = true := hr
    have h : plainB (rdN b u up p q) = false := h
    unfold plainB at h
    refine ⟨?_⟩; simp only [rdVal, rdCode, hr, hf, h]; simp
  · rename_i hr hf
    have hr : rdrB nm b u = true := hr
    have h : plainB (rdN b u up p q) = true := h
    unfold plainB at h
    refine ⟨?_⟩; simp only [rdVal, rdCode, hr, hf, h]; simp
/-- Scaling changes no reduced fraction. -/
theorem redG_mul {g x y : Int} (hg : 0 < g) : redG (g * x) (g * y) = g * redG x y := by
  unfold redG
  rw [Int.gcd_mul_left]; push_cast
  rw [Int.natAbs_of_nonneg (by omega)]
theorem red_scale {g x y : Int} (hg : 0 < g) (hy : y ≠ 0) : redP (g * x) (g * y) = redP x y ∧ redQ (g * x) (g * y) = redQ x y := by
  have h1 : g * y < 0 ↔ y < 0 := by
    constructor
    · intro h; apply Classical.byContradiction; intro h2
      have := Int.mul_nonneg (show 0 ≤ g by omega) (show 0 ≤ y by omega); omega
    · intro h; exact Int.mul_neg_of_pos_of_neg hg h
  unfold redP redQ
  rw [redG_mul hg, Int.mul_ediv_mul_of_pos _ _ hg, Int.mul_ediv_mul_of_pos _ _ hg]
  by_cases h : y < 0
  · rw [if_pos h, if_pos (h1.2 h), if_pos h, if_pos (h1.2 h)]; exact ⟨rfl, rfl⟩
  · rw [if_neg h, if_neg (fun h2 => h (h1.1 h2)), if_neg h, if_neg (fun h2 => h (h1.1 h2))]; exact ⟨rfl, rfl⟩
theorem red_pos {p q : Int} (hq : 0 < q) : redP p q = p / redG p q ∧ redQ p q = q / redG p q := by
  unfold redP redQ; rw [if_neg (by omega), if_neg (by omega)]; exact ⟨rfl, rfl⟩
theorem red_back {p q : Int} (hq : 0 < q) : p = redG p q * redP p q ∧ q = redG p q * redQ p q := by
  rw [(red_pos hq).1, (red_pos hq).2]
  exact ⟨(Int.mul_ediv_cancel' (Int.gcd_dvd_left ..)).symm, (Int.mul_ediv_cancel' (Int.gcd_dvd_right ..)).symm⟩
theorem redQ_pos {p q : Int} (hq : 0 < q) : 0 < redQ p q := by
  have hg := redG_pos (p := p) (q := q) (by omega)
  have h := (red_back (p := p) hq).2
  apply Classical.byContradiction; intro h2
  have h3 : redG p q * redQ p q ≤ 0 := by
    have := Int.mul_nonneg (show 0 ≤ redG p q by omega) (show 0 ≤ -redQ p q by omega)
    rw [Int.mul_neg] at this; omega
  omega
/-- Small fractions are valid. -/
theorem redOk_small {p q : Int} (hp : -1000000000 ≤ p ∧ p ≤ 1000000000) (hq : 1 ≤ q ∧ q ≤ 1000000000) : redOk p q = true := by
  have hg := redG_pos (p := p) (q := q) (by omega)
  have e := red_pos (p := p) (q := q) (by omega)
  have h1 := redQ_pos (p := p) (q := q) (by omega)
  have h2 := ediv_small hg hp
  have h3 := ediv_small hg (p := q) (M := 1000000000) (by omega)
  have hgc : Int.gcd (redP p q) (redQ p q) = 1 := by
    rw [e.1, e.2]
    exact Int.gcd_ediv_gcd_ediv_gcd (by unfold redG at hg; omega)
  unfold redOk
  rw [fOk_iff]
  rw [← e.1, ← e.2] at *
  exact ⟨by omega, by omega, by omega, by omega, hgc⟩
/-- Comparing. -/
def cmpF (p q p' q' : Int) : Int := if p * q' < p' * q then -1 else if p * q' > p' * q then 1 else 0
def s_cmp : Spec := fun args S => match args, S with
  | [.agg [.int .i64 p, .int .i64 q], .agg [.int .i64 p', .int .i64 q']], [] => ⟨smF p q ∧ smF p' q', .int .i64 (cmpF p q p' q'), []⟩
  | _, _ => noSpec
theorem ok_compare : SpecOk Try.prog 75 s_cmp := by
  intro args S h; unfold s_cmp at h ⊢; (split at h <;> first | exact False.elim h | skip)
  dsimp only at h ⊢
  rename_i p q p' q'
  have hm := smF_mul h.1 h.2
  have hm' := smF_mul h.2 h.1
  refine funW tabOk (E := []) trivial [] (k := 0) (fn := Try.f75) rfl rfl rfl rfl rfl rfl ?_
  (repeat' ((try (conv => whnf)); first | (with_reducible first | refine And.intro ?_ ?_ | refine WX.of ?_) | exact zc | ((with_reducible refine VC.mk ?_); exact zw) | (with_reducible first | refine splitT ?_ | refine splitF ?_) | ((with_reducible refine splitM.mk (fun hsm => ?_) (fun hsm => ?_)) <;> (try exact zx)) | ((with_reducible refine splitB.mk (fun h => ?_) (fun h => ?_)) <;> (try simp only [zs, ne_eq] at h) <;> (try simp (disch := omega) only [w64] at h) <;> (try exact zx)) | (with_reducible intro hz; (try exact absurd hz (Nat.succ_ne_zero _)))))
  all_goals (refine ⟨?_⟩; unfold cmpF; first | (rw [if_pos (by omega)]; done) | (rw [if_neg (by omega), if_pos (by omega)]; done) | (rw [if_neg (by omega), if_neg (by omega)]))
theorem ok_l01Cmp : SpecOk Try.prog 132 s_cmp := by
  intro args S h; unfold s_cmp at h ⊢; (split at h <;> first | exact False.elim h | skip)
  dsimp only at h ⊢
  rename_i p q p' q'
  have hm := smF_mul h.1 h.2
  have hm' := smF_mul h.2 h.1
  refine funW tabOk (E := []) trivial [] (k := 0) (fn := Try.f132) rfl rfl rfl rfl rfl rfl ?_
  (repeat' ((try (conv => whnf)); first | (with_reducible first | refine And.intro ?_ ?_ | refine WX.of ?_) | exact zc | ((with_reducible refine VC.mk ?_); exact zw) | (with_reducible first | refine splitT ?_ | refine splitF ?_) | ((with_reducible refine splitM.mk (fun hsm => ?_) (fun hsm => ?_)) <;> (try exact zx)) | ((with_reducible refine splitB.mk (fun h => ?_) (fun h => ?_)) <;> (try simp only [zs, ne_eq] at h) <;> (try simp (disch := omega) only [w64] at h) <;> (try exact zx)) | (with_reducible intro hz; (try exact absurd hz (Nat.succ_ne_zero _)))))
  all_goals (refine ⟨?_⟩; unfold cmpF; first | (rw [if_pos (by omega)]; done) | (rw [if_neg (by omega), if_pos (by omega)]; done) | (rw [if_neg (by omega), if_neg (by omega)]))
theorem cmpF_le {p q p' q' : Int} : cmpF p q p' q' ≤ 0 ↔ p * q' ≤ p' * q := by unfold cmpF; (repeat' split) <;> omega
theorem cmpF_ge {p q p' q' : Int} : 0 ≤ cmpF p q p' q' ↔ p' * q ≤ p * q' := by unfold cmpF; (repeat' split) <;> omega
theorem cmpF_lt {p q p' q' : Int} : cmpF p q p' q' < 0 ↔ p * q' < p' * q := by unfold cmpF; (repeat' split) <;> omega
theorem cmpF_gt {p q p' q' : Int} : 0 < cmpF p q p' q' ↔ p' * q < p * q' := by unfold cmpF; (repeat' split) <;> omega
/-- The greater and the lesser one. -/
def moF (p q p' q' : Int) : Int × Int := if p' * q ≤ p * q' then (p, q) else (p', q')
def leF (p q p' q' : Int) : Int × Int := if p * q' ≤ p' * q then (p, q) else (p', q')
def s_more : Spec := fun args S => match args, S with
  | [.agg [.int .i64 p, .int .i64 q], .agg [.int .i64 p', .int .i64 q']], [] => ⟨smF p q ∧ smF p' q', .agg [.int .i64 (moF p q p' q').1, .int .i64 (moF p q p' q').2], []⟩
  | _, _ => noSpec
def s_less : Spec := fun args S => match args, S with
  | [.agg [.int .i64 p, .int .i64 q], .agg [.int .i64 p', .int .i64 q']], [] => ⟨smF p q ∧ smF p' q', .agg [.int .i64 (leF p q p' q').1, .int .i64 (leF p q p' q').2], []⟩
  | _, _ => noSpec
theorem ok_greater : SpecOk Try.prog 163 s_more := by
  intro args S h; unfold s_more at h ⊢; (split at h <;> first | exact False.elim h | skip)
  dsimp only at h ⊢
  rename_i p q p' q'
  have hc := cmpF_ge (p := p) (q := q) (p' := p') (q' := q')
  refine funW tabOk (E := [(75, s_cmp)]) ⟨ok_compare, trivial⟩ [] (k := 0) (fn := Try.f163) rfl rfl rfl rfl rfl rfl ?_
  (repeat' ((try (conv => whnf)); first | (with_reducible first | refine And.intro ?_ ?_ | refine WX.of ?_) | exact zc | ((with_reducible refine VC.mk ?_); exact zw) | (with_reducible first | refine splitT ?_ | refine splitF ?_) | ((with_reducible refine splitM.mk (fun hsm => ?_) (fun hsm => ?_)) <;> (try exact zx)) | ((with_reducible refine splitB.mk (fun h => ?_) (fun h => ?_)) <;> (try simp only [zs, ne_eq] at h) <;> (try simp (disch := omega) only [w64] at h) <;> (try exact zx)) | (with_reducible intro hz; (try exact absurd hz (Nat.succ_ne_zero _)))))
  all_goals (refine ⟨?_⟩; unfold moF; first | rw [if_pos (by omega)] | rw [if_neg (by omega)])
theorem ok_l01More : SpecOk Try.prog 130 s_more := by
  intro args S h; unfold s_more at h ⊢; (split at h <;> first | exact False.elim h | skip)
  dsimp only at h ⊢
  rename_i p q p' q'
  have hc := cmpF_gt (p := p') (q := q') (p' := p) (q' := q)
  refine funW tabOk (E := [(132, s_cmp)]) ⟨ok_l01Cmp, trivial⟩ [] (k := 0) (fn := Try.f130) rfl rfl rfl rfl rfl rfl ?_
  (repeat' ((try (conv => whnf)); first | (with_reducible first | refine And.intro ?_ ?_ | refine WX.of ?_) | exact zc | ((with_reducible refine VC.mk ?_); exact zw) | (with_reducible first | refine splitT ?_ | refine splitF ?_) | ((with_reducible refine splitM.mk (fun hsm => ?_) (fun hsm => ?_)) <;> (try exact zx)) | ((with_reducible refine splitB.mk (fun h => ?_) (fun h => ?_)) <;> (try simp only [zs, ne_eq] at h) <;> (try simp (disch := omega) only [w64] at h) <;> (try exact zx)) | (with_reducible intro hz; (try exact absurd hz (Nat.succ_ne_zero _)))))
  all_goals first | exact ⟨⟨h.2, h.1⟩⟩ | (refine ⟨?_⟩; unfold moF; first | rw [if_pos (by omega)] | rw [if_neg (by omega)])
theorem ok_lesser : SpecOk Try.prog 164 s_less := by
  intro args S h; unfold s_less at h ⊢; (split at h <;> first | exact False.elim h | skip)
  dsimp only at h ⊢
  rename_i p q p' q'
  have hc := cmpF_le (p := p) (q := q) (p' := p') (q' := q')
  refine funW tabOk (E := [(75, s_cmp)]) ⟨ok_compare, trivial⟩ [] (k := 0) (fn := Try.f164) rfl rfl rfl rfl rfl rfl ?_
  (repeat' ((try (conv => whnf)); first | (with_reducible first | refine And.intro ?_ ?_ | refine WX.of ?_) | exact zc | ((with_reducible refine VC.mk ?_); exact zw) | (with_reducible first | refine splitT ?_ | refine splitF ?_) | ((with_reducible refine splitM.mk (fun hsm => ?_) (fun hsm => ?_)) <;> (try exact zx)) | ((with_reducible refine splitB.mk (fun h => ?_) (fun h => ?_)) <;> (try simp only [zs, ne_eq] at h) <;> (try simp (disch := omega) only [w64] at h) <;> (try exact zx)) | (with_reducible intro hz; (try exact absurd hz (Nat.succ_ne_zero _)))))
  all_goals (refine ⟨?_⟩; unfold leF; first | rw [if_pos (by omega)] | rw [if_neg (by omega)])
theorem ok_l01Less : SpecOk Try.prog 131 s_less := by
  intro args S h; unfold s_less at h ⊢; (split at h <;> first | exact False.elim h | skip)
  dsimp only at h ⊢
  rename_i p q p' q'
  have hc := cmpF_lt (p := p') (q := q') (p' := p) (q' := q)
  refine funW tabOk (E := [(132, s_cmp)]) ⟨ok_l01Cmp, trivial⟩ [] (k := 0) (fn := Try.f131) rfl rfl rfl rfl rfl rfl ?_
  (repeat' ((try (conv => whnf)); first | (with_reducible first | refine And.intro ?_ ?_ | refine WX.of ?_) | exact zc | ((with_reducible refine VC.mk ?_); exact zw) | (with_reducible first | refine splitT ?_ | refine splitF ?_) | ((with_reducible refine splitM.mk (fun hsm => ?_) (fun hsm => ?_)) <;> (try exact zx)) | ((with_reducible refine splitB.mk (fun h => ?_) (fun h => ?_)) <;> (try simp only [zs, ne_eq] at h) <;> (try simp (disch := omega) only [w64] at h) <;> (try exact zx)) | (with_reducible intro hz; (try exact absurd hz (Nat.succ_ne_zero _)))))
  all_goals first | exact ⟨⟨h.2, h.1⟩⟩ | (refine ⟨?_⟩; unfold leF; first | rw [if_pos (by omega)] | rw [if_neg (by omega)])
theorem smF_mo {p q p' q' : Int} (h : smF p q) (h' : smF p' q') : smF (moF p q p' q').1 (moF p q p' q').2 := by unfold moF; split <;> assumption
theorem smF_le {p q p' q' : Int} (h : smF p q) (h' : smF p' q') : smF (leF p q p' q').1 (leF p q p' q').2 := by unfold leF; split <;> assumption
/-- A valid span. -/
def spOk (p q p' q' : Int) : Bool := fOk p q && fOk p' q' && decide (p * q' ≤ p' * q)
theorem spOk_iff {p q p' q' : Int} : spOk p q p' q' = true ↔ fOk p q = true ∧ fOk p' q' = true ∧ p * q' ≤ p' * q := by simp [spOk, and_assoc]
def s_vSpan : Spec := fun args S => match args, S with
  | [.agg [.int .i64 p, .int .i64 q, .int .i64 p', .int .i64 q']], [] => ⟨True, .bool (spOk p q p' q'), []⟩
  | _, _ => noSpec
theorem allF_two {p q p' q' : Int} : allF (seg [(p, q), (p', q')] 0 2) = (fOk p q && fOk p' q') := by simp [allF, seg]
theorem ok_ValidSpan : SpecOk Try.prog 73 s_vSpan := by
  intro args S h; unfold s_vSpan at h ⊢; (split at h <;> first | exact False.elim h | skip)
  dsimp only at h ⊢
  rename_i p q p' q'
  have hc := cmpF_le (p := p) (q := q) (p' := p') (q' := q')
  refine funW tabOk (E := [(133, s_allF), (75, s_cmp)]) ⟨ok_areValid, ok_compare, trivial⟩ [] (k := 0) (fn := Try.f73) rfl rfl rfl rfl rfl rfl ?_
  (repeat' ((try (conv => whnf)); first | (with_reducible first | refine And.intro ?_ ?_ | refine WX.of ?_) | exact zc | ((with_reducible refine VC.mk ?_); exact zw) | (with_reducible first | refine splitT ?_ | refine splitF ?_) | ((with_reducible refine splitM.mk (fun hsm => ?_) (fun hsm => ?_)) <;> (try exact zx)) | ((with_reducible refine splitB.mk (fun h => ?_) (fun h => ?_)) <;> (try simp only [zs, ne_eq] at h) <;> (try simp (disch := omega) only [w64] at h) <;> (try exact zx)) | (with_reducible intro hz; (try exact absurd hz (Nat.succ_ne_zero _)))))
  · exact ⟨⟨Nat.le_refl 2, by omega⟩⟩
  · rw [allF_two, Bool.and_eq_true] at h
    exact ⟨⟨smF_ok h.1, smF_ok h.2⟩⟩
  · rw [allF_two, Bool.and_eq_true] at h
    refine ⟨congrArg SV.bool ?_⟩
    simp only [hc]; simp [spOk, h]
  · rw [allF_two] at h
    refine ⟨congrArg SV.bool ?_⟩
    simp only [spOk, h]; rfl
/-- What is in both. -/
def s_meet : Spec := fun args S => match args, S with
  | [.agg [.int .i64 p, .int .i64 q, .int .i64 p', .int .i64 q'], .agg [.int .i64 r, .int .i64 s, .int .i64 r', .int .i64 s']], [] => ⟨(smF p q ∧ smF p' q') ∧ smF r s ∧ smF r' s', .tup [.agg [.int .i64 (moF p q r s).1, .int .i64 (moF p q r s).2, .int .i64 (leF p' q' r' s').1, .int .i64 (leF p' q' r' s').2], .bool (decide ((moF p q r s).1 * (leF p' q' r' s').2 ≤ (leF p' q' r' s').1 * (moF p q r s).2))], []⟩
  | _, _ => noSpec
theorem ok_l01Meet : SpecOk Try.prog 72 s_meet := by
  intro args S h; unfold s_meet at h ⊢; (split at h <;> first | exact False.elim h | skip)
  dsimp only at h ⊢
  refine funW tabOk (E := [(130, s_more), (131, s_less), (132, s_cmp)]) ⟨ok_l01More, ok_l01Less, ok_l01Cmp, trivial⟩ [(1, [(6, 0), (8, 0), (11, 0), (11, 1)]), (2, [(0, 1)])] (k := 0) (fn := Try.f72) rfl rfl rfl rfl rfl rfl ?_
  (repeat' ((try (conv => whnf)); first | (with_reducible first | refine And.intro ?_ ?_ | refine WX.of ?_) | exact zc | ((with_reducible refine VC.mk ?_); exact zw) | (with_reducible first | refine splitT ?_ | refine splitF ?_) | ((with_reducible refine splitM.mk (fun hsm => ?_) (fun hsm => ?_)) <;> (try exact zx)) | ((with_reducible refine splitB.mk (fun h => ?_) (fun h => ?_)) <;> (try simp only [zs, ne_eq] at h) <;> (try simp (disch := omega) only [w64] at h) <;> (try exact zx)) | (with_reducible intro hz; (try exact absurd hz (Nat.succ_ne_zero _)))))
  · exact ⟨⟨h.1.1, h.2.1⟩⟩
  · exact ⟨⟨h.1.2, h.2.2⟩⟩
  · exact ⟨⟨smF_mo h.1.1 h.2.1, smF_le h.1.2 h.2.2⟩⟩
  · refine ⟨?_⟩
    simp only [cmpF_le]
end Go.Proofs.Ytghafpklomnhlaa.Eng
set_option linter.unusedVariables false
set_option linter.unusedSimpArgs false
namespace Go.Proofs.Ytghafpklomnhlaa.Eng
open Go Go.RowKit
set_option maxRecDepth 100000
def s_InSpan : Spec := fun args S => match args, S with
  | [.agg [.int .i64 p, .int .i64 q, .int .i64 p', .int .i64 q'], .agg [.int .i64 r, .int .i64 s]], [] => ⟨True, .tup [.bool (spOk p q p' q' && fOk r s && decide (p * s ≤ r * q) && decide (r * q' ≤ p' * s)), .int .i64 (if (spOk p q p' q' && fOk r s) = true then 0 else 1)], []⟩
  | _, _ => noSpec
theorem ok_InSpan : SpecOk Try.prog 23 s_InSpan := by
  intro args S h; unfold s_InSpan at h ⊢; (split at h <;> first | exact False.elim h | skip)
  dsimp only at h ⊢
  rename_i p q p' q' r s
  have hc1 := cmpF_le (p := p) (q := q) (p' := r) (q' := s)
  have hc2 := cmpF_le (p := r) (q := s) (p' := p') (q' := q')
  have h1 : spOk p q p' q' = true → smF p q ∧ smF p' q' := fun h => ⟨smF_ok (spOk_iff.1 h).1, smF_ok (spOk_iff.1 h).2.1⟩
  refine funW tabOk (E := [(73, s_vSpan), (74, s_fOk), (75, s_cmp)]) ⟨ok_ValidSpan, ok_ValidFrac, ok_compare, trivial⟩ [] (k := 0) (fn := Try.f23) rfl rfl rfl rfl rfl rfl ?_
  (repeat' ((try (conv => whnf)); first | (with_reducible first | refine And.intro ?_ ?_ | refine WX.of ?_) | exact zc | ((with_reducible refine VC.mk ?_); exact zw) | (with_reducible first | refine splitT ?_ | refine splitF ?_) | ((with_reducible refine splitM.mk (fun hsm => ?_) (fun hsm => ?_)) <;> (try exact zx)) | ((with_reducible refine splitB.mk (fun h => ?_) (fun h => ?_)) <;> (try simp only [zs, ne_eq] at h) <;> (try simp (disch := omega) only [w64] at h) <;> (try exact zx)) | (with_reducible intro hz; (try exact absurd hz (Nat.succ_ne_zero _)))))
  · exact ⟨by simp [h]⟩
  · exact ⟨by simp [h]⟩
  · rename_i hs
    exact ⟨⟨(h1 hs).1, smF_ok h⟩⟩
  · rename_i hs hf
    exact ⟨⟨smF_ok hf, (h1 hs).2⟩⟩
  · rename_i hs hf
    exact ⟨by simp only [hs, hf, hc2, show decide (p * s ≤ r * q) = true from decide_eq_true (hc1.1 h), Bool.and_self, Bool.true_and, if_true]⟩
  · rename_i hs hf
    exact ⟨by simp only [hs, hf, show decide (p * s ≤ r * q) = false from decide_eq_false (fun z => by have := hc1.2 z; omega), Bool.and_self, Bool.and_false, Bool.false_and, if_true]⟩
end Go.Proofs.Ytghafpklomnhlaa.Eng
set_option linter.unusedVariables false
set_option linter.unusedSimpArgs false
namespace Go.Proofs.Ytghafpklomnhlaa.Eng
open Go Go.RowKit
set_option maxRecDepth 100000
theorem zip_get {α β : Type} {A : List α} {B : List β} {i : Nat} {a : α} {b : β} (ha : A[i]? = some a) (hb : B[i]? = some b) : (A.zip B)[i]? = some (a, b) := by
  simp [List.getElem?_zip_eq_some, ha, hb]
end Go.Proofs.Ytghafpklomnhlaa.Eng
set_option linter.unusedVariables false
set_option linter.unusedSimpArgs false
namespace Go.Proofs.Ytghafpklomnhlaa.Eng
open Go Go.RowKit
set_option maxRecDepth 100000
end Go.Proofs.Ytghafpklomnhlaa.Eng
set_option linter.unusedVariables false
set_option linter.unusedSimpArgs false
namespace Go.Proofs.Ytghafpklomnhlaa.Eng
open Go Go.RowKit
set_option maxRecDepth 100000
end Go.Proofs.Ytghafpklomnhlaa.Eng
set_option linter.unusedVariables false
set_option linter.unusedSimpArgs false
namespace Go.Proofs.Ytghafpklomnhlaa.Eng
open Go Go.RowKit
set_option maxRecDepth 100000
end Go.Proofs.Ytghafpklomnhlaa.Eng
set_option linter.unusedVariables false
set_option linter.unusedSimpArgs false
namespace Go.Proofs.Ytghafpklomnhlaa.Eng
open Go Go.RowKit
set_option maxRecDepth 100000
end Go.Proofs.Ytghafpklomnhlaa.Eng
set_option linter.unusedVariables false
set_option linter.unusedSimpArgs false
namespace Go.Proofs.Ytghafpklomnhlaa.Eng
open Go Go.RowKit
set_option maxRecDepth 100000
/-- The ends of the span of a reading. -/
def loN (b u n : Int) : Int := 2 * (n - b) - u
def hiN (b u n : Int) : Int := 2 * (n - b) + u
def spN (b u n : Int) : (Int × Int) × Int × Int := ((redP (loN b u n) 2, redQ (loN b u n) 2), redP (hiN b u n) 2, redQ (hiN b u n) 2)
theorem half_t {m u g P Q : Int} (hg : 0 < g) (hP : u = g * P) (hQ : 2 = g * Q) (hQ0 : Q ≠ 0) :
    (redP (m * Q - P * 1) (1 * Q) = redP (2 * m - u) 2 ∧ redQ (m * Q - P * 1) (1 * Q) = redQ (2 * m - u) 2) ∧
    (redP (m * Q + P * 1) (1 * Q) = redP (2 * m + u) 2 ∧ redQ (m * Q + P * 1) (1 * Q) = redQ (2 * m + u) 2) := by
  have h1 := red_scale (g := g) (x := m * Q - P * 1) (y := 1 * Q) hg (by omega)
  have h2 := red_scale (g := g) (x := m * Q + P * 1) (y := 1 * Q) hg (by omega)
  have e1 : g * (m * Q - P * 1) = 2 * m - u := by
    rw [Int.mul_sub, Int.mul_one, ← hP, ← Int.mul_assoc, Int.mul_comm g m, Int.mul_assoc, ← hQ, Int.mul_comm m 2]
  have e2 : g * (m * Q + P * 1) = 2 * m + u := by
    rw [Int.mul_add, Int.mul_one, ← hP, ← Int.mul_assoc, Int.mul_comm g m, Int.mul_assoc, ← hQ, Int.mul_comm m 2]
  have e3 : g * (1 * Q) = 2 := by rw [Int.one_mul, ← hQ]
  rw [e1, e3] at h1
  rw [e2, e3] at h2
  exact ⟨⟨h1.1.symm, h1.2.symm⟩, h2.1.symm, h2.2.symm⟩
/-- Half a unit, and the ends. -/
theorem half_u {u : Int} (hu : 1 ≤ u ∧ u ≤ 20) : divOk u 1 2 1 = true ∧ divP u 1 2 1 = redP u 2 ∧ divQ u 1 2 1 = redQ u 2 := by
  have h := redOk_small (p := u) (q := 2) (by omega) (by omega)
  have e1 : u * 1 = u := Int.mul_one u
  have e2 : (1 : Int) * 2 = 2 := rfl
  simp [divOk, divP, divQ, tolP, tolQ, e1, e2, h]
theorem half_sm {u : Int} (hu : 1 ≤ u ∧ u ≤ 20) : smF (redP u 2) (redQ u 2) := smF_ok (redOk_small (p := u) (q := 2) (by omega) (by omega))
theorem half_e {m u : Int} (hu : 1 ≤ u ∧ u ≤ 20) :
    (redP (m * redQ u 2 - redP u 2 * 1) (1 * redQ u 2) = redP (2 * m - u) 2 ∧ redQ (m * redQ u 2 - redP u 2 * 1) (1 * redQ u 2) = redQ (2 * m - u) 2) ∧
    (redP (m * redQ u 2 + redP u 2 * 1) (1 * redQ u 2) = redP (2 * m + u) 2 ∧ redQ (m * redQ u 2 + redP u 2 * 1) (1 * redQ u 2) = redQ (2 * m + u) 2) := by
  have hb := red_back (p := u) (q := 2) (by omega)
  have hg := redG_pos (p := u) (q := 2) (by omega)
  have hQ := redQ_pos (p := u) (q := 2) (by omega)
  exact half_t hg hb.1 hb.2 (by omega)
theorem half_ok {m u : Int} (hu : 1 ≤ u ∧ u ≤ 20) (hm : -2000000 ≤ m ∧ m ≤ 2000000) : redOk (m * redQ u 2 - redP u 2 * 1) (1 * redQ u 2) = true ∧ redOk (m * redQ u 2 + redP u 2 * 1) (1 * redQ u 2) = true := by
  have h := half_e (m := m) hu
  unfold redOk
  rw [h.1.1, h.1.2, h.2.1, h.2.2]
  exact ⟨redOk_small (p := 2 * m - u) (q := 2) (by omega) (by omega), redOk_small (p := 2 * m + u) (q := 2) (by omega) (by omega)⟩
def s_widen : Spec := fun args S => match args, S with
  | [.ptr c 0 0, .agg [.int .i64 p, .int .i64 q, .int .i64 p', .int .i64 q'], .agg [.int .i64 r, .int .i64 s]], [.arr .bool [bad] 0 true] => ⟨c = 0 ∧ smF p q ∧ smF p' q' ∧ smF r s, .agg [.int .i64 (tolP (p * s - r * q) (q * s)), .int .i64 (tolQ (p * s - r * q) (q * s)), .int .i64 (tolP (p' * s + r * q') (q' * s)), .int .i64 (tolQ (p' * s + r * q') (q' * s))], [.arr .bool [bad || !redOk (p * s - r * q) (q * s) || !redOk (p' * s + r * q') (q' * s)] 0 true]⟩
  | _, _ => noSpec
theorem ok_widen : SpecOk Try.prog 87 s_widen := by
  intro args S h; unfold s_widen at h ⊢; (split at h <;> first | exact False.elim h | skip)
  dsimp only at h ⊢
  rename_i c p q p' q' r s bad
  obtain ⟨rfl, h1, h2, h3⟩ := h
  refine funW tabOk (E := [(77, s_sub), (144, s_add)]) ⟨ok_sub, ok_add, trivial⟩ [(1, [(7, 0), (8, 0)])] (k := 1) (fn := Try.f87) rfl rfl rfl rfl rfl rfl ?_
  (repeat' ((try (conv => whnf)); first | (with_reducible first | refine And.intro ?_ ?_ | refine WX.of ?_) | exact zc | ((with_reducible refine VC.mk ?_); exact zw) | exact VC.mk ⟨rfl, h1, h3⟩ | exact VC.mk ⟨rfl, h2, h3⟩ | (with_reducible first | refine splitT ?_ | refine splitF ?_) | ((with_reducible refine splitM.mk (fun hsm => ?_) (fun hsm => ?_)) <;> (try exact zx)) | ((with_reducible refine splitB.mk (fun h => ?_) (fun h => ?_)) <;> (try simp only [zs, ne_eq] at h) <;> (try simp (disch := omega) only [w64] at h) <;> (try exact zx)) | (with_reducible intro hz; (try exact absurd hz (Nat.succ_ne_zero _)))))
def s_corrected : Spec := fun args S => match args, S with
  | [.ptr c 0 0, .agg [.str nm, .int .i16 b, .int .i16 u, .bool up], .int .i64 n], [.arr .bool [bad] 0 true] => ⟨c = 0 ∧ gB b u ∧ -1000000 ≤ n ∧ n ≤ 1000000, .tup [.agg [.int .i64 (spN b u n).1.1, .int .i64 (spN b u n).1.2, .int .i64 (spN b u n).2.1, .int .i64 (spN b u n).2.2], .bool (decide (n.tmod u = 0))], [.arr .bool [bad] 0 true]⟩
  | _, _ => noSpec
theorem ok_corrected : SpecOk Try.prog 67 s_corrected := by
  intro args S h; unfold s_corrected at h ⊢; (split at h <;> first | exact False.elim h | skip)
  dsimp only at h ⊢
  rename_i c nm b u up n bad
  obtain ⟨rfl, hg, hn⟩ := h
  unfold gB at hg
  have hh := half_u hg.2
  have hs := half_sm hg.2
  have he := half_e (m := n - b) hg.2
  have ho := half_ok (m := n - b) hg.2 (by omega)
  have ht := tmod_lt (a := n) (b := u) (by omega)
  refine funW tabOk (E := [(89, s_num), (127, s_div), (87, s_widen)]) ⟨ok_num, ok_div, ok_widen, trivial⟩ [(1, [(9, 0), (16, 0), (16, 1), (24, 0), (24, 1), (24, 2), (24, 3), (24, 4), (24, 5), (24, 7)])] (k := 1) (fn := Try.f67) rfl rfl rfl rfl rfl rfl ?_
  (repeat' ((try (conv => whnf)); first | (with_reducible first | refine And.intro ?_ ?_ | refine WX.of ?_) | exact zc | ((with_reducible refine VC.mk ?_); exact zw) | (with_reducible first | refine splitT ?_ | refine splitF ?_) | ((with_reducible refine splitM.mk (fun hsm => ?_) (fun hsm => ?_)) <;> (try exact zx)) | ((with_reducible refine splitB.mk (fun h => ?_) (fun h => ?_)) <;> (try simp only [zs, ne_eq] at h) <;> (try simp (disch := omega) only [w64] at h) <;> (try exact zx)) | (with_reducible intro hz; (try exact absurd hz (Nat.succ_ne_zero _)))))
  · refine ⟨⟨rfl, ?_, smF_1 (by omega)⟩⟩
    dsimp only; rw [w64 (by omega)]; exact smF_1 (by omega)
  · refine ⟨?_⟩
    simp (disch := omega) only [w64, hh.2.1, hh.2.2]
    exact ⟨trivial, smF_1 (by omega), smF_1 (by omega), hs⟩
  · refine ⟨?_⟩
    simp (disch := omega) only [w64, hh.2.1, hh.2.2, tolP, tolQ, ho.1, ho.2, he.1.1, he.1.2, he.2.1, he.2.2, spN, loN, hiN, if_true]
  · refine ⟨?_⟩
    simp (disch := omega) only [w64, hh.1, hh.2.1, hh.2.2, ho.1, ho.2, Bool.not_true, Bool.or_false]
def s_l06Span : Spec := fun args S => match args, S with
  | [.ptr 0 i 0, .int .i64 n], [.arr (.prod .str (.prod (.int .i16) (.prod (.int .i16) .bool))) l sz wr] => ⟨i < l.length ∧ gB ((l[i]?).getD ([], 0, 0, false)).2.1 ((l[i]?).getD ([], 0, 0, false)).2.2.1 ∧ -1000000 ≤ n ∧ n ≤ 1000000, .agg [.int .i64 (spN ((l[i]?).getD ([], 0, 0, false)).2.1 ((l[i]?).getD ([], 0, 0, false)).2.2.1 n).1.1, .int .i64 (spN ((l[i]?).getD ([], 0, 0, false)).2.1 ((l[i]?).getD ([], 0, 0, false)).2.2.1 n).1.2, .int .i64 (spN ((l[i]?).getD ([], 0, 0, false)).2.1 ((l[i]?).getD ([], 0, 0, false)).2.2.1 n).2.1, .int .i64 (spN ((l[i]?).getD ([], 0, 0, false)).2.1 ((l[i]?).getD ([], 0, 0, false)).2.2.1 n).2.2], [.arr (.prod .str (.prod (.int .i16) (.prod (.int .i16) .bool))) l sz wr]⟩
  | _, _ => noSpec
theorem ok_l06Span : SpecOk Try.prog 71 s_l06Span := by
  intro args S h; unfold s_l06Span at h ⊢; (split at h <;> first | exact False.elim h | skip)
  dsimp only at h ⊢
  rename_i i n l sz wr
  obtain ⟨⟨nm, b, u, up⟩, ha⟩ := get_some h.1
  have e : (l[i]?).getD ([], 0, 0, false) = (nm, b, u, up) := by rw [ha]; rfl
  rw [e] at h ⊢
  obtain ⟨h1, hg, hn⟩ := h
  dsimp only at hg
  unfold gB at hg
  have ho1 := redOk_small (p := loN b u n) (q := 2) (by unfold loN; omega) (by omega)
  have ho2 := redOk_small (p := hiN b u n) (q := 2) (by unfold hiN; omega) (by omega)
  unfold loN at ho1
  unfold hiN at ho2
  refine funW tabOk (E := [(57, s_red)]) ⟨ok_l01Reduced, trivial⟩ [] (k := 1) (fn := Try.f71) rfl rfl rfl rfl rfl rfl ?_
  (repeat' ((try (conv => whnf)); first | (with_reducible first | refine And.intro ?_ ?_ | refine WX.of ?_) | exact zc | ((with_reducible refine VC.mk ?_); exact zw) | refine atL_p ha ?_ | ((with_reducible refine VC.mk ?_); simp (disch := omega) only [w64]; first  |  done  |  omega  |  (refine ⟨?_, ?_, ?_⟩ <;> first  |  trivial  |  omega)) | (with_reducible first | refine splitT ?_ | refine splitF ?_) | ((with_reducible refine splitM.mk (fun hsm => ?_) (fun hsm => ?_)) <;> (try exact zx)) | ((with_reducible refine splitB.mk (fun h => ?_) (fun h => ?_)) <;> (try simp only [zs, ne_eq] at h) <;> (try simp (disch := omega) only [w64] at h) <;> (try exact zx)) | (with_reducible intro hz; (try exact absurd hz (Nat.succ_ne_zero _)))))
  refine ⟨?_⟩
  simp (disch := omega) only [w64, ho1, ho2, spN, loN, hiN, if_true]
end Go.Proofs.Ytghafpklomnhlaa.Eng
set_option linter.unusedVariables false
set_option linter.unusedSimpArgs false
namespace Go.Proofs.Ytghafpklomnhlaa.Eng
open Go Go.RowKit
set_option maxRecDepth 100000
/-- Readers, all valid. -/
def allR (R : List (List UInt8 × Int × Int × Bool)) : Bool := R.all rdrOk
def s_nvR : Spec := fun args S => match args, S with
  | [.agg [.str nm, .int .i16 b, .int .i16 u, .bool up]], [] => ⟨nm.length ≤ 9223372036854775807 ∧ (-32768 ≤ b ∧ b < 32768) ∧ -32768 ≤ u ∧ u < 32768, .bool (!rdrB nm b u), []⟩
  | _, _ => noSpec
theorem ok_areReaders1 : SpecOk Try.prog 123 s_nvR := by
  intro args S h; unfold s_nvR at h ⊢; (split at h <;> first | exact False.elim h | skip)
  dsimp only at h ⊢
  refine funW tabOk (E := [(124, s_vReader)]) ⟨ok_ValidReader, trivial⟩ [] (k := 0) (fn := Try.f123) rfl rfl rfl rfl rfl rfl ?_
  (repeat' ((try (conv => whnf)); first | (with_reducible first | refine And.intro ?_ ?_ | refine WX.of ?_) | exact zc | ((with_reducible refine VC.mk ?_); exact zw) | (with_reducible first | refine splitT ?_ | refine splitF ?_) | ((with_reducible refine splitM.mk (fun hsm => ?_) (fun hsm => ?_)) <;> (try exact zx)) | ((with_reducible refine splitB.mk (fun h => ?_) (fun h => ?_)) <;> (try simp only [zs, ne_eq] at h) <;> (try simp (disch := omega) only [w64] at h) <;> (try exact zx)) | (with_reducible intro hz; (try exact absurd hz (Nat.succ_ne_zero _)))))
def nrdr (a : List UInt8 × Int × Int × Bool) : Bool := !rdrOk a
def s_idxR (g : Nat) : Spec := fun args S => match args, S with
  | [.sl 0 s n x, .fn g' []], [.arr (.prod .str (.prod (.int .i16) (.prod (.int .i16) .bool))) l 4 wr] => ⟨g' = g ∧ s + n ≤ l.length ∧ n ≤ 4611686018427387904 ∧ ∀ (j : Nat) a, l[j]? = some a → rdrGood a, .int .i64 (findI nrdr (seg l s n)), [.arr (.prod .str (.prod (.int .i16) (.prod (.int .i16) .bool))) l 4 wr]⟩
  | _, _ => noSpec
theorem ok_idxR : SpecOk Try.prog 160 (s_idxR 123) := by
  intro args S h; unfold s_idxR at h ⊢; (split at h <;> first | exact False.elim h | skip)
  dsimp only at h ⊢
  rename_i s n x g l wr
  obtain ⟨rfl, h1, h2, ho⟩ := h
  have hL := seg_len h1
  refine funW tabOk (E := [(123, s_nvR)]) ⟨ok_areReaders1, trivial⟩ [] (k := 1) (fn := Try.f160) rfl rfl rfl rfl rfl rfl ?_
  (repeat' ((try (conv => whnf)); first | (with_reducible first | refine And.intro ?_ ?_ | refine WX.of ?_) | exact zc | ((with_reducible refine VC.mk ?_); exact zw) | (with_reducible first | refine splitT ?_ | refine splitF ?_) | ((with_reducible refine splitM.mk (fun hsm => ?_) (fun hsm => ?_)) <;> (try exact zx)) | ((with_reducible refine splitB.mk (fun h => ?_) (fun h => ?_)) <;> (try simp only [zs, ne_eq] at h) <;> (try simp (disch := omega) only [w64] at h) <;> (try exact zx)) | (with_reducible intro hz; (try exact absurd hz (Nat.succ_ne_zero _)))))
  refine loopW tabOk (E := [(123, s_nvR)]) ⟨ok_areReaders1, trivial⟩ [] (σ := Nat) (fun i => [(0, .sl 0 s n x), (1, .fn 123 []), (7, .int .i64 n), (8, .int .i64 i)]) (fun i => [.arr (.prod .str (.prod (.int .i16) (.prod (.int .i16) .bool))) l 4 wr]) (fun i => n - i) (fun i => i ≤ n ∧ ∀ (j : Nat) a, j < i → (seg l s n)[j]? = some a → nrdr a = false) 0 ⟨Nat.zero_le _, fun j a hj => by omega⟩ ?_ ?_
  · (repeat' ((try (conv => whnf)); first | (with_reducible first | refine And.intro ?_ ?_ | refine WX.of ?_) | exact zc | ((with_reducible refine VC.mk ?_); exact zw) | (with_reducible first | refine splitT ?_ | refine splitF ?_) | ((with_reducible refine splitM.mk (fun hsm => ?_) (fun hsm => ?_)) <;> (try exact zx)) | ((with_reducible refine splitB.mk (fun h => ?_) (fun h => ?_)) <;> (try simp only [zs, ne_eq] at h) <;> (try simp (disch := omega) only [w64] at h) <;> (try exact zx)) | (with_reducible intro hz; (try exact absurd hz (Nat.succ_ne_zero _)))))
  · intro i ⟨hi, hp⟩
    by_cases hlt : i < n
    · obtain ⟨⟨nm, b, u, up⟩, ha⟩ := get_some (l := seg l s n) (i := i) (by omega)
      have hg := ho _ _ (seg_get ha).1
      unfold rdrGood at hg
      (repeat' ((try (conv => whnf)); first | (with_reducible first | refine And.intro ?_ ?_ | refine WX.of ?_) | exact zc | ((with_reducible refine VC.mk ?_); exact zw) | refine atL_i ha ?_ | (with_reducible first | refine splitT ?_ | refine splitF ?_) | ((with_reducible refine splitM.mk (fun hsm => ?_) (fun hsm => ?_)) <;> (try exact zx)) | ((with_reducible refine splitB.mk (fun h => ?_) (fun h => ?_)) <;> (try simp only [zs, ne_eq] at h) <;> (try simp (disch := omega) only [w64] at h) <;> (try exact zx)) | (with_reducible intro hz; (try exact absurd hz (Nat.succ_ne_zero _)))))
      · exact ⟨by rw [findI_some ha (by simpa [nrdr, rdrOk] using h) hp]⟩
      · refine ⟨i + 1, by omega, ⟨hlt, upto_step ha (by simpa [nrdr, rdrOk] using h) hp⟩, ?_⟩
        (repeat' ((try (conv => whnf)); first | (with_reducible first | refine And.intro ?_ ?_ | refine WX.of ?_) | exact zc | ((with_reducible refine VC.mk ?_); exact zw) | (with_reducible first | refine splitT ?_ | refine splitF ?_) | ((with_reducible refine splitM.mk (fun hsm => ?_) (fun hsm => ?_)) <;> (try exact zx)) | ((with_reducible refine splitB.mk (fun h => ?_) (fun h => ?_)) <;> (try simp only [zs, ne_eq] at h) <;> (try simp (disch := omega) only [w64] at h) <;> (try exact zx)) | (with_reducible intro hz; (try exact absurd hz (Nat.succ_ne_zero _)))))
    · (repeat' ((try (conv => whnf)); first | (with_reducible first | refine And.intro ?_ ?_ | refine WX.of ?_) | exact zc | ((with_reducible refine VC.mk ?_); exact zw) | (with_reducible first | refine splitT ?_ | refine splitF ?_) | ((with_reducible refine splitM.mk (fun hsm => ?_) (fun hsm => ?_)) <;> (try exact zx)) | ((with_reducible refine splitB.mk (fun h => ?_) (fun h => ?_)) <;> (try simp only [zs, ne_eq] at h) <;> (try simp (disch := omega) only [w64] at h) <;> (try exact zx)) | (with_reducible intro hz; (try exact absurd hz (Nat.succ_ne_zero _)))))
      exact ⟨by rw [findI_none fun j a hj => hp j a (by have := (List.getElem?_eq_some_iff.1 hj).1; omega) hj]⟩
def s_anyR (g : Nat) : Spec := fun args S => match args, S with
  | [.sl 0 s n x, .fn g' []], [.arr (.prod .str (.prod (.int .i16) (.prod (.int .i16) .bool))) l 4 wr] => ⟨g' = g ∧ s + n ≤ l.length ∧ n ≤ 4611686018427387904 ∧ ∀ (j : Nat) a, l[j]? = some a → rdrGood a, .bool ((seg l s n).any nrdr), [.arr (.prod .str (.prod (.int .i16) (.prod (.int .i16) .bool))) l 4 wr]⟩
  | _, _ => noSpec
theorem ok_anyR : SpecOk Try.prog 122 (s_anyR 123) := by
  intro args S h; unfold s_anyR at h ⊢; (split at h <;> first | exact False.elim h | skip)
  dsimp only at h ⊢
  rename_i s n x g l wr
  obtain ⟨rfl, h1, h2, ho⟩ := h
  refine funW tabOk (E := [(160, (s_idxR 123))]) ⟨ok_idxR, trivial⟩ [] (k := 1) (fn := Try.f122) rfl rfl rfl rfl rfl rfl ?_
  (repeat' ((try (conv => whnf)); first | (with_reducible first | refine And.intro ?_ ?_ | refine WX.of ?_) | exact zc | ((with_reducible refine VC.mk ?_); exact zw) | exact VC.mk ⟨rfl, h1, h2, ho⟩ | (with_reducible first | refine splitT ?_ | refine splitF ?_) | ((with_reducible refine splitM.mk (fun hsm => ?_) (fun hsm => ?_)) <;> (try exact zx)) | ((with_reducible refine splitB.mk (fun h => ?_) (fun h => ?_)) <;> (try simp only [zs, ne_eq] at h) <;> (try simp (disch := omega) only [w64] at h) <;> (try exact zx)) | (with_reducible intro hz; (try exact absurd hz (Nat.succ_ne_zero _)))))
  exact ⟨by rw [findI_any]⟩
def s_allR : Spec := fun args S => match args, S with
  | [.sl 0 s n x], [.arr (.prod .str (.prod (.int .i16) (.prod (.int .i16) .bool))) l 4 wr] => ⟨s + n ≤ l.length ∧ n ≤ 4611686018427387904 ∧ ∀ (j : Nat) a, l[j]? = some a → rdrGood a, .bool (allR (seg l s n)), [.arr (.prod .str (.prod (.int .i16) (.prod (.int .i16) .bool))) l 4 wr]⟩
  | _, _ => noSpec
theorem ok_areReaders : SpecOk Try.prog 65 s_allR := by
  intro args S h; unfold s_allR at h ⊢; (split at h <;> first | exact False.elim h | skip)
  dsimp only at h ⊢
  obtain ⟨h1, h2, ho⟩ := h
  refine funW tabOk (E := [(122, (s_anyR 123))]) ⟨ok_anyR, trivial⟩ [] (k := 1) (fn := Try.f65) rfl rfl rfl rfl rfl rfl ?_
  (repeat' ((try (conv => whnf)); first | (with_reducible first | refine And.intro ?_ ?_ | refine WX.of ?_) | exact zc | ((with_reducible refine VC.mk ?_); exact zw) | exact VC.mk ⟨rfl, h1, h2, ho⟩ | (with_reducible first | refine splitT ?_ | refine splitF ?_) | ((with_reducible refine splitM.mk (fun hsm => ?_) (fun hsm => ?_)) <;> (try exact zx)) | ((with_reducible refine splitB.mk (fun h => ?_) (fun h => ?_)) <;> (try simp only [zs, ne_eq] at h) <;> (try simp (disch := omega) only [w64] at h) <;> (try exact zx)) | (with_reducible intro hz; (try exact absurd hz (Nat.succ_ne_zero _)))))
  all_goals (refine ⟨?_⟩; unfold allR; rw [List.all_eq_not_any_not]; rfl)
theorem ok_l06Valid : SpecOk Try.prog 69 s_allR := by
  intro args S h; unfold s_allR at h ⊢; (split at h <;> first | exact False.elim h | skip)
  dsimp only at h ⊢
  rename_i s n x l wr
  obtain ⟨h1, h2, ho⟩ := h
  have hL := seg_len h1
  refine funW tabOk (E := [(60, s_l06Ok)]) ⟨ok_l06Ok, trivial⟩ [] (k := 1) (fn := Try.f69) rfl rfl rfl rfl rfl rfl ?_
  (repeat' ((try (conv => whnf)); first | (with_reducible first | refine And.intro ?_ ?_ | refine WX.of ?_) | exact zc | ((with_reducible refine VC.mk ?_); exact zw) | (with_reducible first | refine splitT ?_ | refine splitF ?_) | ((with_reducible refine splitM.mk (fun hsm => ?_) (fun hsm => ?_)) <;> (try exact zx)) | ((with_reducible refine splitB.mk (fun h => ?_) (fun h => ?_)) <;> (try simp only [zs, ne_eq] at h) <;> (try simp (disch := omega) only [w64] at h) <;> (try exact zx)) | (with_reducible intro hz; (try exact absurd hz (Nat.succ_ne_zero _)))))
  refine loopW tabOk (E := [(60, s_l06Ok)]) ⟨ok_l06Ok, trivial⟩ [] (σ := Nat) (fun i => [(0, .sl 0 s n x), (3, .int .i64 i)]) (fun i => [.arr (.prod .str (.prod (.int .i16) (.prod (.int .i16) .bool))) l 4 wr]) (fun i => n - i) (fun i => i ≤ n ∧ ∀ (j : Nat) a, j < i → (seg l s n)[j]? = some a → rdrOk a = true) 0 ⟨Nat.zero_le _, fun j a hj => by omega⟩ ?_ ?_
  · (repeat' ((try (conv => whnf)); first | (with_reducible first | refine And.intro ?_ ?_ | refine WX.of ?_) | exact zc | ((with_reducible refine VC.mk ?_); exact zw) | (with_reducible first | refine splitT ?_ | refine splitF ?_) | ((with_reducible refine splitM.mk (fun hsm => ?_) (fun hsm => ?_)) <;> (try exact zx)) | ((with_reducible refine splitB.mk (fun h => ?_) (fun h => ?_)) <;> (try simp only [zs, ne_eq] at h) <;> (try simp (disch := omega) only [w64] at h) <;> (try exact zx)) | (with_reducible intro hz; (try exact absurd hz (Nat.succ_ne_zero _)))))
  · intro i ⟨hi, hp⟩
    by_cases hlt : i < n
    · obtain ⟨a, ha⟩ := get_some (l := seg l s n) (i := i) (by omega)
      have hag := (seg_get ha).1
      have e : (l[s + ((i : Nat) : Int).toNat]?).getD ([], 0, 0, false) = a := by rw [Int.toNat_natCast, hag]; rfl
      (repeat' ((try (conv => whnf)); first | (with_reducible first | refine And.intro ?_ ?_ | refine WX.of ?_) | exact zc | ((with_reducible refine VC.mk ?_); exact zw) | ((with_reducible refine VC.mk ?_); (refine ⟨?_, ho⟩); (rw [Int.toNat_natCast]); (omega)) | (with_reducible first | refine splitT ?_ | refine splitF ?_) | ((with_reducible refine splitM.mk (fun hsm => ?_) (fun hsm => ?_)) <;> (try exact zx)) | ((with_reducible refine splitB.mk (fun h => ?_) (fun h => ?_)) <;> (try simp only [zs, ne_eq] at h) <;> (try simp (disch := omega) only [w64] at h) <;> (try exact zx)) | (with_reducible intro hz; (try exact absurd hz (Nat.succ_ne_zero _)))))
      · have h : rdrOk a = false := by rw [← e]; exact h
        exact ⟨by rw [show allR (seg l s n) = false from all_no ha h]⟩
      · have h : rdrOk a = true := by rw [← e]; exact h
        refine ⟨i + 1, by omega, ⟨hlt, upto_step ha h hp⟩, ?_⟩
        (repeat' ((try (conv => whnf)); first | (with_reducible first | refine And.intro ?_ ?_ | refine WX.of ?_) | exact zc | ((with_reducible refine VC.mk ?_); exact zw) | (with_reducible first | refine splitT ?_ | refine splitF ?_) | ((with_reducible refine splitM.mk (fun hsm => ?_) (fun hsm => ?_)) <;> (try exact zx)) | ((with_reducible refine splitB.mk (fun h => ?_) (fun h => ?_)) <;> (try simp only [zs, ne_eq] at h) <;> (try simp (disch := omega) only [w64] at h) <;> (try exact zx)) | (with_reducible intro hz; (try exact absurd hz (Nat.succ_ne_zero _)))))
    · (repeat' ((try (conv => whnf)); first | (with_reducible first | refine And.intro ?_ ?_ | refine WX.of ?_) | exact zc | ((with_reducible refine VC.mk ?_); exact zw) | (with_reducible first | refine splitT ?_ | refine splitF ?_) | ((with_reducible refine splitM.mk (fun hsm => ?_) (fun hsm => ?_)) <;> (try exact zx)) | ((with_reducible refine splitB.mk (fun h => ?_) (fun h => ?_)) <;> (try simp only [zs, ne_eq] at h) <;> (try simp (disch := omega) only [w64] at h) <;> (try exact zx)) | (with_reducible intro hz; (try exact absurd hz (Nat.succ_ne_zero _)))))
      exact ⟨by rw [show allR (seg l s n) = true from all_yes (n := i) (by omega) hp]⟩
end Go.Proofs.Ytghafpklomnhlaa.Eng
set_option linter.unusedVariables false
set_option linter.unusedSimpArgs false
namespace Go.Proofs.Ytghafpklomnhlaa.Eng
open Go Go.RowKit
set_option maxRecDepth 100000
theorem allR_at {R : List (List UInt8 × Int × Int × Bool)} (h : allR R = true) {i : Nat} {nm : List UInt8} {b u : Int} {up : Bool} (ha : R[i]? = some (nm, b, u, up)) : gB b u := by
  have := List.all_eq_true.1 h _ (List.mem_of_getElem? ha)
  simp only [rdrOk, rdrB, Bool.and_eq_true] at this
  exact gB_iff.1 this.2
abbrev RdT : Type := List UInt8 × Int × Int × Bool
end Go.Proofs.Ytghafpklomnhlaa.Eng
set_option linter.unusedVariables false
set_option linter.unusedSimpArgs false
namespace Go.Proofs.Ytghafpklomnhlaa.Eng
open Go Go.RowKit
set_option maxRecDepth 100000
end Go.Proofs.Ytghafpklomnhlaa.Eng
set_option linter.unusedVariables false
set_option linter.unusedSimpArgs false
namespace Go.Proofs.Ytghafpklomnhlaa.Eng
open Go Go.RowKit
set_option maxRecDepth 100000
end Go.Proofs.Ytghafpklomnhlaa.Eng
set_option linter.unusedVariables false
set_option linter.unusedSimpArgs false
namespace Go.Proofs.Ytghafpklomnhlaa.Eng
open Go Go.RowKit
set_option maxRecDepth 100000
abbrev SpT : Type := (Int × Int) × Int × Int
def spB (s : SpT) : Bool := spOk s.1.1 s.1.2 s.2.1 s.2.2
def nspB (s : SpT) : Bool := !spB s
def s_nvSp : Spec := fun args S => match args, S with
  | [.agg [.int .i64 p, .int .i64 q, .int .i64 p', .int .i64 q']], [] => ⟨True, .bool (!spOk p q p' q'), []⟩
  | _, _ => noSpec
theorem ok_areSpans1 : SpecOk Try.prog 152 s_nvSp := by
  intro args S h; unfold s_nvSp at h ⊢; (split at h <;> first | exact False.elim h | skip)
  dsimp only at h ⊢
  refine funW tabOk (E := [(73, s_vSpan)]) ⟨ok_ValidSpan, trivial⟩ [] (k := 0) (fn := Try.f152) rfl rfl rfl rfl rfl rfl ?_
  (repeat' ((try (conv => whnf)); first | (with_reducible first | refine And.intro ?_ ?_ | refine WX.of ?_) | exact zc | ((with_reducible refine VC.mk ?_); exact zw) | (with_reducible first | refine splitT ?_ | refine splitF ?_) | ((with_reducible refine splitM.mk (fun hsm => ?_) (fun hsm => ?_)) <;> (try exact zx)) | ((with_reducible refine splitB.mk (fun h => ?_) (fun h => ?_)) <;> (try simp only [zs, ne_eq] at h) <;> (try simp (disch := omega) only [w64] at h) <;> (try exact zx)) | (with_reducible intro hz; (try exact absurd hz (Nat.succ_ne_zero _)))))
def s_idxSp (g : Nat) : Spec := fun args S => match args, S with
  | [.sl 0 s n x, .fn g' []], [.arr (.prod (.prod (.int .i64) (.int .i64)) (.prod (.int .i64) (.int .i64))) l 4 wr] => ⟨g' = g ∧ s + n ≤ l.length ∧ n ≤ 4611686018427387904, .int .i64 (findI nspB (seg l s n)), [.arr (.prod (.prod (.int .i64) (.int .i64)) (.prod (.int .i64) (.int .i64))) l 4 wr]⟩
  | _, _ => noSpec
theorem ok_idxSp : SpecOk Try.prog 172 (s_idxSp 152) := by
  intro args S h; unfold s_idxSp at h ⊢; (split at h <;> first | exact False.elim h | skip)
  dsimp only at h ⊢
  rename_i s n x g l wr
  obtain ⟨rfl, h1, h2⟩ := h
  have hL := seg_len h1
  refine funW tabOk (E := [(152, s_nvSp)]) ⟨ok_areSpans1, trivial⟩ [] (k := 1) (fn := Try.f172) rfl rfl rfl rfl rfl rfl ?_
  (repeat' ((try (conv => whnf)); first | (with_reducible first | refine And.intro ?_ ?_ | refine WX.of ?_) | exact zc | ((with_reducible refine VC.mk ?_); exact zw) | (with_reducible first | refine splitT ?_ | refine splitF ?_) | ((with_reducible refine splitM.mk (fun hsm => ?_) (fun hsm => ?_)) <;> (try exact zx)) | ((with_reducible refine splitB.mk (fun h => ?_) (fun h => ?_)) <;> (try simp only [zs, ne_eq] at h) <;> (try simp (disch := omega) only [w64] at h) <;> (try exact zx)) | (with_reducible intro hz; (try exact absurd hz (Nat.succ_ne_zero _)))))
  refine loopW tabOk (E := [(152, s_nvSp)]) ⟨ok_areSpans1, trivial⟩ [] (σ := Nat) (fun i => [(0, .sl 0 s n x), (1, .fn 152 []), (7, .int .i64 n), (8, .int .i64 i)]) (fun i => [.arr (.prod (.prod (.int .i64) (.int .i64)) (.prod (.int .i64) (.int .i64))) l 4 wr]) (fun i => n - i) (fun i => i ≤ n ∧ ∀ (j : Nat) a, j < i → (seg l s n)[j]? = some a → nspB a = false) 0 ⟨Nat.zero_le _, fun j a hj => by omega⟩ ?_ ?_
  · (repeat' ((try (conv => whnf)); first | (with_reducible first | refine And.intro ?_ ?_ | refine WX.of ?_) | exact zc | ((with_reducible refine VC.mk ?_); exact zw) | (with_reducible first | refine splitT ?_ | refine splitF ?_) | ((with_reducible refine splitM.mk (fun hsm => ?_) (fun hsm => ?_)) <;> (try exact zx)) | ((with_reducible refine splitB.mk (fun h => ?_) (fun h => ?_)) <;> (try simp only [zs, ne_eq] at h) <;> (try simp (disch := omega) only [w64] at h) <;> (try exact zx)) | (with_reducible intro hz; (try exact absurd hz (Nat.succ_ne_zero _)))))
  · intro i ⟨hi, hp⟩
    by_cases hlt : i < n
    · obtain ⟨a, ha⟩ := get_some (l := seg l s n) (i := i) (by omega)
      (repeat' ((try (conv => whnf)); first | (with_reducible first | refine And.intro ?_ ?_ | refine WX.of ?_) | exact zc | ((with_reducible refine VC.mk ?_); exact zw) | refine atL_i ha ?_ | (with_reducible first | refine splitT ?_ | refine splitF ?_) | ((with_reducible refine splitM.mk (fun hsm => ?_) (fun hsm => ?_)) <;> (try exact zx)) | ((with_reducible refine splitB.mk (fun h => ?_) (fun h => ?_)) <;> (try simp only [zs, ne_eq] at h) <;> (try simp (disch := omega) only [w64] at h) <;> (try exact zx)) | (with_reducible intro hz; (try exact absurd hz (Nat.succ_ne_zero _)))))
      · exact ⟨by rw [findI_some ha (by simpa [nspB, spB] using h) hp]⟩
      · refine ⟨i + 1, by omega, ⟨hlt, upto_step ha (by simpa [nspB, spB] using h) hp⟩, ?_⟩
        (repeat' ((try (conv => whnf)); first | (with_reducible first | refine And.intro ?_ ?_ | refine WX.of ?_) | exact zc | ((with_reducible refine VC.mk ?_); exact zw) | (with_reducible first | refine splitT ?_ | refine splitF ?_) | ((with_reducible refine splitM.mk (fun hsm => ?_) (fun hsm => ?_)) <;> (try exact zx)) | ((with_reducible refine splitB.mk (fun h => ?_) (fun h => ?_)) <;> (try simp only [zs, ne_eq] at h) <;> (try simp (disch := omega) only [w64] at h) <;> (try exact zx)) | (with_reducible intro hz; (try exact absurd hz (Nat.succ_ne_zero _)))))
    · (repeat' ((try (conv => whnf)); first | (with_reducible first | refine And.intro ?_ ?_ | refine WX.of ?_) | exact zc | ((with_reducible refine VC.mk ?_); exact zw) | (with_reducible first | refine splitT ?_ | refine splitF ?_) | ((with_reducible refine splitM.mk (fun hsm => ?_) (fun hsm => ?_)) <;> (try exact zx)) | ((with_reducible refine splitB.mk (fun h => ?_) (fun h => ?_)) <;> (try simp only [zs, ne_eq] at h) <;> (try simp (disch := omega) only [w64] at h) <;> (try exact zx)) | (with_reducible intro hz; (try exact absurd hz (Nat.succ_ne_zero _)))))
      exact ⟨by rw [findI_none fun j a hj => hp j a (by have := (List.getElem?_eq_some_iff.1 hj).1; omega) hj]⟩
def s_anySp (g : Nat) : Spec := fun args S => match args, S with
  | [.sl 0 s n x, .fn g' []], [.arr (.prod (.prod (.int .i64) (.int .i64)) (.prod (.int .i64) (.int .i64))) l 4 wr] => ⟨g' = g ∧ s + n ≤ l.length ∧ n ≤ 4611686018427387904, .bool ((seg l s n).any nspB), [.arr (.prod (.prod (.int .i64) (.int .i64)) (.prod (.int .i64) (.int .i64))) l 4 wr]⟩
  | _, _ => noSpec
theorem ok_anySp : SpecOk Try.prog 151 (s_anySp 152) := by
  intro args S h; unfold s_anySp at h ⊢; (split at h <;> first | exact False.elim h | skip)
  dsimp only at h ⊢
  rename_i s n x g l wr
  obtain ⟨rfl, h1, h2⟩ := h
  refine funW tabOk (E := [(172, (s_idxSp 152))]) ⟨ok_idxSp, trivial⟩ [] (k := 1) (fn := Try.f151) rfl rfl rfl rfl rfl rfl ?_
  (repeat' ((try (conv => whnf)); first | (with_reducible first | refine And.intro ?_ ?_ | refine WX.of ?_) | exact zc | ((with_reducible refine VC.mk ?_); exact zw) | (with_reducible first | refine splitT ?_ | refine splitF ?_) | ((with_reducible refine splitM.mk (fun hsm => ?_) (fun hsm => ?_)) <;> (try exact zx)) | ((with_reducible refine splitB.mk (fun h => ?_) (fun h => ?_)) <;> (try simp only [zs, ne_eq] at h) <;> (try simp (disch := omega) only [w64] at h) <;> (try exact zx)) | (with_reducible intro hz; (try exact absurd hz (Nat.succ_ne_zero _)))))
  exact ⟨by rw [findI_any]⟩
def s_areSp : Spec := fun args S => match args, S with
  | [.sl 0 s n x], [.arr (.prod (.prod (.int .i64) (.int .i64)) (.prod (.int .i64) (.int .i64))) l 4 wr] => ⟨s + n ≤ l.length ∧ n ≤ 4611686018427387904, .bool ((seg l s n).all spB), [.arr (.prod (.prod (.int .i64) (.int .i64)) (.prod (.int .i64) (.int .i64))) l 4 wr]⟩
  | _, _ => noSpec
theorem ok_areSpans : SpecOk Try.prog 94 s_areSp := by
  intro args S h; unfold s_areSp at h ⊢; (split at h <;> first | exact False.elim h | skip)
  dsimp only at h ⊢
  refine funW tabOk (E := [(151, (s_anySp 152))]) ⟨ok_anySp, trivial⟩ [] (k := 1) (fn := Try.f94) rfl rfl rfl rfl rfl rfl ?_
  (repeat' ((try (conv => whnf)); first | (with_reducible first | refine And.intro ?_ ?_ | refine WX.of ?_) | exact zc | ((with_reducible refine VC.mk ?_); exact zw) | (with_reducible first | refine splitT ?_ | refine splitF ?_) | ((with_reducible refine splitM.mk (fun hsm => ?_) (fun hsm => ?_)) <;> (try exact zx)) | ((with_reducible refine splitB.mk (fun h => ?_) (fun h => ?_)) <;> (try simp only [zs, ne_eq] at h) <;> (try simp (disch := omega) only [w64] at h) <;> (try exact zx)) | (with_reducible intro hz; (try exact absurd hz (Nat.succ_ne_zero _)))))
  all_goals (refine ⟨?_⟩; rw [List.all_eq_not_any_not]; rfl)
/-- What is in both. -/
def mtS (a b : SpT) : SpT := (moF a.1.1 a.1.2 b.1.1 b.1.2, leF a.2.1 a.2.2 b.2.1 b.2.2)
def mtOk (a b : SpT) : Bool := decide ((mtS a b).1.1 * (mtS a b).2.2 ≤ (mtS a b).2.1 * (mtS a b).1.2)
theorem spB_f {s : SpT} (h : spB s = true) : fOk s.1.1 s.1.2 = true ∧ fOk s.2.1 s.2.2 = true ∧ s.1.1 * s.2.2 ≤ s.2.1 * s.1.2 := by
  unfold spB at h; rw [spOk_iff] at h; exact h
theorem mo_fOk {p q p' q' : Int} (h : fOk p q = true) (h' : fOk p' q' = true) : fOk (moF p q p' q').1 (moF p q p' q').2 = true := by unfold moF; split <;> assumption
theorem le_fOk {p q p' q' : Int} (h : fOk p q = true) (h' : fOk p' q' = true) : fOk (leF p q p' q').1 (leF p q p' q').2 = true := by unfold leF; split <;> assumption
theorem mt_ok {a b : SpT} (ha : spB a = true) (hb : spB b = true) : spB (mtS a b) = mtOk a b := by
  have h1 := spB_f ha
  have h2 := spB_f hb
  unfold spB mtOk spOk
  unfold mtS
  dsimp only
  rw [mo_fOk h1.1 h2.1, le_fOk h1.2.1 h2.2.1]; rfl
theorem mt_self {a : SpT} (ha : spB a = true) : mtS a a = a ∧ mtOk a a = true := by
  have e : mtS a a = a := by unfold mtS moF leF; simp
  exact ⟨e, by rw [← mt_ok ha ha, e]; exact ha⟩
def s_MeetSp : Spec := fun args S => match args, S with
  | [.agg [.int .i64 p, .int .i64 q, .int .i64 p', .int .i64 q'], .agg [.int .i64 r, .int .i64 s, .int .i64 r', .int .i64 s']], [] => ⟨spB ((p, q), p', q') = true ∧ spB ((r, s), r', s') = true, .tup [.agg [.int .i64 (if mtOk ((p, q), p', q') ((r, s), r', s') = true then (mtS ((p, q), p', q') ((r, s), r', s')).1.1 else 0), .int .i64 (if mtOk ((p, q), p', q') ((r, s), r', s') = true then (mtS ((p, q), p', q') ((r, s), r', s')).1.2 else 0), .int .i64 (if mtOk ((p, q), p', q') ((r, s), r', s') = true then (mtS ((p, q), p', q') ((r, s), r', s')).2.1 else 0), .int .i64 (if mtOk ((p, q), p', q') ((r, s), r', s') = true then (mtS ((p, q), p', q') ((r, s), r', s')).2.2 else 0)], .int .i64 (if mtOk ((p, q), p', q') ((r, s), r', s') = true then 0 else 6)], []⟩
  | _, _ => noSpec
theorem ok_MeetSpans : SpecOk Try.prog 128 s_MeetSp := by
  intro args S h; unfold s_MeetSp at h ⊢; (split at h <;> first | exact False.elim h | skip)
  dsimp only at h ⊢
  rename_i p q p' q' r s r' s'
  obtain ⟨h1, h2⟩ := h
  have g1 := spB_f h1
  have g2 := spB_f h2
  have hal : List.all (seg [((p, q), p', q'), ((r, s), r', s')] 0 2) spB = true := by simp [seg, h1, h2]
  have hm := mt_ok h1 h2
  refine funW tabOk (E := [(94, s_areSp), (163, s_more), (164, s_less), (73, s_vSpan)]) ⟨ok_areSpans, ok_greater, ok_lesser, ok_ValidSpan, trivial⟩ [(3, [(6, 0), (8, 0), (11, 0), (11, 1)])] (k := 0) (fn := Try.f128) rfl rfl rfl rfl rfl rfl ?_
  (repeat' ((try (conv => whnf)); first | (with_reducible first | refine And.intro ?_ ?_ | refine WX.of ?_) | exact zc | ((with_reducible refine VC.mk ?_); exact zw) | ((with_reducible refine splitT_of ?_ ?_); (focus (simp only [hal, Bool.not_true, Bool.not_false, decide_true, decide_false]; done))) | ((with_reducible refine splitF_of ?_ ?_); (focus (simp only [hal, Bool.not_true, Bool.not_false, decide_true, decide_false]; done))) | ((with_reducible refine VC.mk ?_); exact ⟨smF_ok g1.1, smF_ok g2.1⟩) | ((with_reducible refine VC.mk ?_); exact ⟨smF_ok g1.2.1, smF_ok g2.2.1⟩) | (with_reducible first | refine splitT ?_ | refine splitF ?_) | ((with_reducible refine splitM.mk (fun hsm => ?_) (fun hsm => ?_)) <;> (try exact zx)) | ((with_reducible refine splitB.mk (fun h => ?_) (fun h => ?_)) <;> (try simp only [zs, ne_eq] at h) <;> (try simp (disch := omega) only [w64] at h) <;> (try exact zx)) | (with_reducible intro hz; (try exact absurd hz (Nat.succ_ne_zero _)))))
  · exact ⟨⟨Nat.le_refl 2, by omega⟩⟩
  · have hb : mtOk ((p, q), p', q') ((r, s), r', s') = false := by rw [← hm]; exact h
    exact ⟨by simp only [hb, if_false, Bool.false_eq_true]⟩
  · have hb : mtOk ((p, q), p', q') ((r, s), r', s') = true := by rw [← hm]; exact h
    exact ⟨by simp only [hb, if_true]; rfl⟩
/-- What is in the first i of some spans. -/
def mtN (W : List SpT) : Nat → Option SpT
  | 0 => W[0]?
  | i + 1 => match mtN W i, W[i]? with
    | some s, some a => if mtOk s a = true then some (mtS s a) else none
    | _, _ => none
theorem mtN_none {W : List SpT} {i : Nat} (h : mtN W i = none) : ∀ (j : Nat), mtN W (i + j) = none
  | 0 => h
  | j + 1 => by have := mtN_none h j; rw [← Nat.add_assoc, mtN, this]
theorem mtN_step {W : List SpT} {i : Nat} {s a : SpT} (h : mtN W i = some s) (ha : W[i]? = some a) : mtN W (i + 1) = if mtOk s a = true then some (mtS s a) else none := by rw [mtN, h, ha]
theorem mtN_ok {W : List SpT} (hW : ∀ a ∈ W, spB a = true) : ∀ {i : Nat} {s : SpT}, mtN W i = some s → spB s = true
  | 0, s, h => hW s (List.mem_of_getElem? h)
  | i + 1, s, h => by
    rw [mtN] at h
    split at h
    · rename_i s' a h1 h2
      split at h
      · rename_i hk
        obtain rfl := Option.some.inj h
        rw [mt_ok (mtN_ok hW h1) (hW a (List.mem_of_getElem? h2))]; exact hk
      · simp at h
    · simp at h
def s_mAll : Spec := fun args S => match args, S with
  | [.sl 0 s n x], [.arr (.prod (.prod (.int .i64) (.int .i64)) (.prod (.int .i64) (.int .i64))) l 4 wr] => ⟨s + n ≤ l.length ∧ 1 ≤ n ∧ n ≤ 1048576 ∧ ∀ a ∈ seg l s n, spB a = true, .tup [.agg [.int .i64 ((mtN (seg l s n) n).getD ((0, 0), 0, 0)).1.1, .int .i64 ((mtN (seg l s n) n).getD ((0, 0), 0, 0)).1.2, .int .i64 ((mtN (seg l s n) n).getD ((0, 0), 0, 0)).2.1, .int .i64 ((mtN (seg l s n) n).getD ((0, 0), 0, 0)).2.2], .int .i64 (if (mtN (seg l s n) n).isSome = true then 0 else 6)], [.arr (.prod (.prod (.int .i64) (.int .i64)) (.prod (.int .i64) (.int .i64))) l 4 wr]⟩
  | _, _ => noSpec
theorem ok_meetAll : SpecOk Try.prog 68 s_mAll := by
  intro args S h; unfold s_mAll at h ⊢; (split at h <;> first | exact False.elim h | skip)
  dsimp only at h ⊢
  rename_i s n x l wr
  obtain ⟨h1, h2, h3, hW⟩ := h
  have hL := seg_len h1
  obtain ⟨⟨⟨p0, q0⟩, r0, s0⟩, h0⟩ := get_some (l := seg l s n) (i := 0) (by omega)
  refine funW tabOk (E := [(128, s_MeetSp)]) ⟨ok_MeetSpans, trivial⟩ [] (k := 1) (fn := Try.f68) rfl rfl rfl rfl rfl rfl ?_
  (repeat' ((try (conv => whnf)); first | (with_reducible first | refine And.intro ?_ ?_ | refine WX.of ?_) | exact zc | ((with_reducible refine VC.mk ?_); exact zw) | with_reducible refine atL_p (by simpa using (seg_get h0).1) ?_ | (with_reducible first | refine splitT ?_ | refine splitF ?_) | ((with_reducible refine splitM.mk (fun hsm => ?_) (fun hsm => ?_)) <;> (try exact zx)) | ((with_reducible refine splitB.mk (fun h => ?_) (fun h => ?_)) <;> (try simp only [zs, ne_eq] at h) <;> (try simp (disch := omega) only [w64] at h) <;> (try exact zx)) | (with_reducible intro hz; (try exact absurd hz (Nat.succ_ne_zero _)))))
  have hm0 : mtN (seg l s n) 0 = some ((p0, q0), r0, s0) := h0
  refine loopW tabOk (E := [(128, s_MeetSp)]) ⟨ok_MeetSpans, trivial⟩ [] (σ := Nat × SpT) (fun z => [(2, .ptr 1 0 0), (4, .ptr 2 0 0), (11, .sl 0 s n x), (12, .int .i64 n), (13, .int .i64 z.1)]) (fun z => [.arr (.prod (.prod (.int .i64) (.int .i64)) (.prod (.int .i64) (.int .i64))) l 4 wr, .arr (.prod (.prod (.int .i64) (.int .i64)) (.prod (.int .i64) (.int .i64))) [((0, 0), 0, 0)] 0 true, .arr (.prod (.prod (.int .i64) (.int .i64)) (.prod (.int .i64) (.int .i64))) [z.2] 0 true]) (fun z => n - z.1) (fun z => z.1 ≤ n ∧ mtN (seg l s n) z.1 = some z.2) (0, ((p0, q0), r0, s0)) ⟨Nat.zero_le _, hm0⟩ ?_ ?_
  · (repeat' ((try (conv => whnf)); first | (with_reducible first | refine And.intro ?_ ?_ | refine WX.of ?_) | exact zc | ((with_reducible refine VC.mk ?_); exact zw) | (with_reducible first | refine splitT ?_ | refine splitF ?_) | ((with_reducible refine splitM.mk (fun hsm => ?_) (fun hsm => ?_)) <;> (try exact zx)) | ((with_reducible refine splitB.mk (fun h => ?_) (fun h => ?_)) <;> (try simp only [zs, ne_eq] at h) <;> (try simp (disch := omega) only [w64] at h) <;> (try exact zx)) | (with_reducible intro hz; (try exact absurd hz (Nat.succ_ne_zero _)))))
  · intro ⟨i, ⟨⟨cp, cq⟩, cr, cs⟩⟩ ⟨hi, hm⟩
    dsimp only at hi hm ⊢
    have hc := mtN_ok hW hm
    by_cases hlt : i < n
    · obtain ⟨⟨⟨p, q⟩, r, s1⟩, ha⟩ := get_some (l := seg l s n) (i := i) (by omega)
      have hw := hW _ (List.mem_of_getElem? ha)
      have hst := mtN_step hm ha
      cases hk : mtOk ((cp, cq), cr, cs) ((p, q), r, s1) with
      | false =>
        rw [hk, if_neg (by simp)] at hst
        have hnn : mtN (seg l s n) n = none := by have := mtN_none hst (n - (i + 1)); rwa [show i + 1 + (n - (i + 1)) = n by omega] at this
        (repeat' ((try (conv => whnf)); first | (with_reducible first | refine And.intro ?_ ?_ | refine WX.of ?_) | exact zc | ((with_reducible refine VC.mk ?_); exact zw) | with_reducible refine atL_i ha ?_ | ((with_reducible refine VC.mk ?_); exact ⟨hc, hw⟩) | (with_reducible first | refine splitT ?_ | refine splitF ?_) | ((with_reducible refine splitM.mk (fun hsm => ?_) (fun hsm => ?_)) <;> (try exact zx)) | ((with_reducible refine splitB.mk (fun h => ?_) (fun h => ?_)) <;> (try simp only [zs, ne_eq] at h) <;> (try simp (disch := omega) only [w64] at h) <;> (try exact zx)) | (with_reducible intro hz; (try exact absurd hz (Nat.succ_ne_zero _)))))
        · exact ⟨by simp [hnn, hk]⟩
        · simp [hk] at h
      | true =>
        rw [hk, if_pos rfl] at hst
        (repeat' ((try (conv => whnf)); first | (with_reducible first | refine And.intro ?_ ?_ | refine WX.of ?_) | exact zc | ((with_reducible refine VC.mk ?_); exact zw) | with_reducible refine atL_i ha ?_ | ((with_reducible refine VC.mk ?_); exact ⟨hc, hw⟩) | (with_reducible first | refine splitT ?_ | refine splitF ?_) | ((with_reducible refine splitM.mk (fun hsm => ?_) (fun hsm => ?_)) <;> (try exact zx)) | ((with_reducible refine splitB.mk (fun h => ?_) (fun h => ?_)) <;> (try simp only [zs, ne_eq] at h) <;> (try simp (disch := omega) only [w64] at h) <;> (try exact zx)) | (with_reducible intro hz; (try exact absurd hz (Nat.succ_ne_zero _)))))
        · simp [hk] at h
        · refine ⟨(i + 1, mtS ((cp, cq), cr, cs) ((p, q), r, s1)), by dsimp only; omega, ⟨hlt, hst⟩, ?_⟩
          (repeat' ((try (conv => whnf)); first | (with_reducible first | refine And.intro ?_ ?_ | refine WX.of ?_) | exact zc | ((with_reducible refine VC.mk ?_); exact zw) | (with_reducible first | refine splitT ?_ | refine splitF ?_) | ((with_reducible refine splitM.mk (fun hsm => ?_) (fun hsm => ?_)) <;> (try exact zx)) | ((with_reducible refine splitB.mk (fun h => ?_) (fun h => ?_)) <;> (try simp only [zs, ne_eq] at h) <;> (try simp (disch := omega) only [w64] at h) <;> (try exact zx)) | (with_reducible intro hz; (try exact absurd hz (Nat.succ_ne_zero _)))))
          all_goals (refine ⟨?_⟩; simp only [hk, if_true]; rfl)
    · obtain rfl : i = n := by omega
      rw [hm]
      (repeat' ((try (conv => whnf)); first | (with_reducible first | refine And.intro ?_ ?_ | refine WX.of ?_) | exact zc | ((with_reducible refine VC.mk ?_); exact zw) | (with_reducible first | refine splitT ?_ | refine splitF ?_) | ((with_reducible refine splitM.mk (fun hsm => ?_) (fun hsm => ?_)) <;> (try exact zx)) | ((with_reducible refine splitB.mk (fun h => ?_) (fun h => ?_)) <;> (try simp only [zs, ne_eq] at h) <;> (try simp (disch := omega) only [w64] at h) <;> (try exact zx)) | (with_reducible intro hz; (try exact absurd hz (Nat.succ_ne_zero _)))))
end Go.Proofs.Ytghafpklomnhlaa.Eng
set_option linter.unusedVariables false
set_option linter.unusedSimpArgs false
namespace Go.Proofs.Ytghafpklomnhlaa.Eng
open Go Go.RowKit
set_option maxRecDepth 100000
/-- The spans of what several readers have read. -/
def vfW (R : List RdT) (L : List Int) : List SpT := (R.zip L).map fun x => spN x.1.2.1 x.1.2.2.1 x.2
def vfM (R : List RdT) (L : List Int) : Bool := (R.zip L).all fun x => decide (x.2.tmod x.1.2.2.1 = 0)
def vfC (R : List RdT) (L : List Int) : Int := if allR R = true then (if areB L = true then (if R.length = L.length ∧ R.length ≤ 12 then (if vfM R L = true then (if (mtN (vfW R L) R.length).isSome = true then 0 else 8) else 4) else 2) else 2) else 1
def vfV (R : List RdT) (L : List Int) : SpT := if vfC R L = 0 then (mtN (vfW R L) R.length).getD ((0, 0), 0, 0) else ((0, 0), 0, 0)
theorem vfW_get {R : List RdT} {L : List Int} {i : Nat} {nm : List UInt8} {b u : Int} {up : Bool} {a : Int} (h : R[i]? = some (nm, b, u, up)) (h2 : L[i]? = some a) : (vfW R L)[i]? = some (spN b u a) := by
  unfold vfW; rw [List.getElem?_map, zip_get h h2]; rfl
theorem vfW_len {R : List RdT} {L : List Int} {m : Nat} (h1 : R.length = m) (h2 : L.length = m) : (vfW R L).length = m := by simp [vfW, h1, h2]
theorem vfM_no {R : List RdT} {L : List Int} {i : Nat} {nm : List UInt8} {b u : Int} {up : Bool} {a : Int} (h : R[i]? = some (nm, b, u, up)) (h2 : L[i]? = some a) (h3 : ¬ a.tmod u = 0) : vfM R L = false := all_no (zip_get h h2) (decide_eq_false h3)
theorem vfM_yes {R : List RdT} {L : List Int} {m : Nat} (h1 : R.length = m) (h2 : L.length = m) (h : ∀ (j : Nat) (r : RdT), j < m → R[j]? = some r → ∀ a, L[j]? = some a → a.tmod r.2.2.1 = 0) : vfM R L = true := by
  refine all_yes (n := m) (by simp [h1, h2]) fun j x hj hx => ?_
  rw [List.getElem?_zip_eq_some] at hx
  exact decide_eq_true (h j _ hj hx.1 _ hx.2)
theorem sp_lt {b u n : Int} (hu : 1 ≤ u ∧ u ≤ 20) (hb : -50 ≤ b ∧ b ≤ 50) (hn : -1000000 ≤ n ∧ n ≤ 1000000) : spB (spN b u n) = true := by
  have h1 := redOk_small (p := loN b u n) (q := 2) (by unfold loN; omega) (by omega)
  have h2 := redOk_small (p := hiN b u n) (q := 2) (by unfold hiN; omega) (by omega)
  have b1 := red_back (p := loN b u n) (q := 2) (by omega)
  have b2 := red_back (p := hiN b u n) (q := 2) (by omega)
  have q1 := redQ_pos (p := loN b u n) (q := 2) (by omega)
  have q2 := redQ_pos (p := hiN b u n) (q := 2) (by omega)
  have g1 := redG_pos (p := loN b u n) (q := 2) (by omega)
  have g2 := redG_pos (p := hiN b u n) (q := 2) (by omega)
  have hlt : loN b u n ≤ hiN b u n := by unfold loN hiN; omega
  unfold spB
  rw [spOk_iff]
  refine ⟨h1, h2, ?_⟩
  unfold spN
  dsimp only
  apply Int.le_of_mul_le_mul_left (a := redG (loN b u n) 2 * redG (hiN b u n) 2) _ (Int.mul_pos g1 g2)
  have e1 : redG (loN b u n) 2 * redG (hiN b u n) 2 * (redP (loN b u n) 2 * redQ (hiN b u n) 2) = loN b u n * 2 := by
    calc redG (loN b u n) 2 * redG (hiN b u n) 2 * (redP (loN b u n) 2 * redQ (hiN b u n) 2) = (redG (loN b u n) 2 * redP (loN b u n) 2) * (redG (hiN b u n) 2 * redQ (hiN b u n) 2) := by simp only [Int.mul_assoc, Int.mul_left_comm, Int.mul_comm]
      _ = loN b u n * 2 := by rw [← b1.1, ← b2.2]
  have e2 : redG (loN b u n) 2 * redG (hiN b u n) 2 * (redP (hiN b u n) 2 * redQ (loN b u n) 2) = hiN b u n * 2 := by
    calc redG (loN b u n) 2 * redG (hiN b u n) 2 * (redP (hiN b u n) 2 * redQ (loN b u n) 2) = (redG (hiN b u n) 2 * redP (hiN b u n) 2) * (redG (loN b u n) 2 * redQ (loN b u n) 2) := by simp only [Int.mul_assoc, Int.mul_left_comm, Int.mul_comm]
      _ = hiN b u n * 2 := by rw [← b2.1, ← b1.2]
  rw [e1, e2]; omega
end Go.Proofs.Ytghafpklomnhlaa.Eng
set_option linter.unusedVariables false
set_option linter.unusedSimpArgs false
namespace Go.Proofs.Ytghafpklomnhlaa.Eng
open Go Go.RowKit
set_option maxRecDepth 100000
theorem vfV_e {R : List RdT} {L : List Int} {c : Int} (e : vfC R L = c) (hc : c ≠ 0) : vfV R L = ((0, 0), 0, 0) := by unfold vfV; rw [e, if_neg hc]
theorem vfC_1 {R : List RdT} {L : List Int} (h : allR R = false) : vfC R L = 1 := by simp [vfC, h]
theorem vfC_2 {R : List RdT} {L : List Int} (h : allR R = true) (h2 : areB L = false) : vfC R L = 2 := by simp [vfC, h, h2]
theorem vfC_3 {R : List RdT} {L : List Int} (h : allR R = true) (h2 : areB L = true) (h3 : ¬ (R.length = L.length ∧ R.length ≤ 12)) : vfC R L = 2 := by unfold vfC; rw [if_pos h, if_pos h2, if_neg h3]
theorem vfC_4 {R : List RdT} {L : List Int} (h : allR R = true) (h2 : areB L = true) (h3 : R.length = L.length ∧ R.length ≤ 12) (h4 : vfM R L = false) : vfC R L = 4 := by unfold vfC; rw [if_pos h, if_pos h2, if_pos h3, h4]; rfl
theorem vfC_8 {R : List RdT} {L : List Int} (h : allR R = true) (h2 : areB L = true) (h3 : R.length = L.length ∧ R.length ≤ 12) (h4 : vfM R L = true) (h5 : mtN (vfW R L) R.length = none) : vfC R L = 8 := by unfold vfC; rw [if_pos h, if_pos h2, if_pos h3, if_pos h4, h5]; rfl
theorem vfC_0 {R : List RdT} {L : List Int} {s : SpT} (h : allR R = true) (h2 : areB L = true) (h3 : R.length = L.length ∧ R.length ≤ 12) (h4 : vfM R L = true) (h5 : mtN (vfW R L) R.length = some s) : vfC R L = 0 ∧ vfV R L = s := by
  have e : vfC R L = 0 := by unfold vfC; rw [if_pos h, if_pos h2, if_pos h3, if_pos h4, h5]; rfl
  exact ⟨e, by unfold vfV; rw [if_pos e, h5]; rfl⟩
theorem vfW_ok {R : List RdT} {L : List Int} (h : allR R = true) (h2 : areB L = true) : ∀ x ∈ vfW R L, spB x = true := fun x hx => by
  obtain ⟨j, hj⟩ := List.getElem?_of_mem hx
  unfold vfW at hj
  rw [List.getElem?_map] at hj
  cases hz : (R.zip L)[j]? with
  | none => rw [hz] at hj; simp at hj
  | some z =>
    rw [hz] at hj
    obtain ⟨⟨nm, b, u, up⟩, a⟩ := z
    rw [List.getElem?_zip_eq_some] at hz
    have hg := allR_at h hz.1
    unfold gB at hg
    obtain rfl := Option.some.inj hj
    exact sp_lt hg.2 hg.1 (are_all h2 hz.2)
theorem upto_two {α : Type} {p : Nat → α → Prop} {L : List α} {i : Nat} {a : α} (ha : L[i]? = some a) (hp : p i a) (h : ∀ (j : Nat) b, j < i → L[j]? = some b → p j b) : ∀ (j : Nat) b, j < i + 1 → L[j]? = some b → p j b := fun j b hj hb => by
  by_cases e : j < i
  · exact h j b e hb
  · obtain rfl : j = i := by omega
    rw [ha] at hb; obtain rfl := Option.some.inj hb; exact hp
def s_vf : Spec := fun args S => match args, S with
  | [.sl 0 a m y, .sl 1 s n x], [.arr (.prod .str (.prod (.int .i16) (.prod (.int .i16) .bool))) R 4 wR, .arr (.int .i64) l 1 wr] => ⟨(a + m ≤ R.length ∧ m ≤ 1048576 ∧ ∀ (j : Nat) r, R[j]? = some r → rdrGood r) ∧ s + n ≤ l.length ∧ n ≤ 1048576, .tup [.agg [.int .i64 (vfV (seg R a m) (seg l s n)).1.1, .int .i64 (vfV (seg R a m) (seg l s n)).1.2, .int .i64 (vfV (seg R a m) (seg l s n)).2.1, .int .i64 (vfV (seg R a m) (seg l s n)).2.2], .int .i64 (vfC (seg R a m) (seg l s n))], [.arr (.prod .str (.prod (.int .i16) (.prod (.int .i16) .bool))) R 4 wR, .arr (.int .i64) l 1 wr]⟩
  | _, _ => noSpec
theorem ok_ValueFromI : SpecOk Try.prog 21 s_vf := by
  intro args S h; unfold s_vf at h ⊢; (split at h <;> first | exact False.elim h | skip)
  dsimp only at h ⊢
  rename_i a m y s n x R wR l wr
  obtain ⟨⟨h1, h2, ho⟩, h3, h4⟩ := h
  have hL := seg_len h1
  have hM := seg_len h3
  refine funW tabOk (E := [(65, s_allR), (66, s_are), (67, s_corrected), (68, s_mAll)]) ⟨ok_areReaders, ok_areReadings, ok_corrected, ok_meetAll, trivial⟩ [(9, [(10, 0)])] (k := 2) (fn := Try.f21) rfl rfl rfl rfl rfl rfl ?_
  (repeat' ((try (conv => whnf)); first | (with_reducible first | refine And.intro ?_ ?_ | refine WX.of ?_) | exact zc | ((with_reducible refine VC.mk ?_); exact zw) | ((with_reducible refine VC.mk ?_); (refine ⟨h1, ?_, ho⟩); (omega)) | (with_reducible first | refine splitT ?_ | refine splitF ?_) | ((with_reducible refine splitM.mk (fun hsm => ?_) (fun hsm => ?_)) <;> (try exact zx)) | ((with_reducible refine splitB.mk (fun h => ?_) (fun h => ?_)) <;> (try simp only [zs, ne_eq] at h) <;> (try simp (disch := omega) only [w64] at h) <;> (try exact zx)) | (with_reducible intro hz; (try exact absurd hz (Nat.succ_ne_zero _)))))
  · exact ⟨by rw [vfV_e (vfC_1 h) (by decide), vfC_1 h]⟩
  · rename_i hR
    have h' := h
    exact ⟨by rw [vfV_e (vfC_2 hR h') (by decide), vfC_2 hR h']⟩
  · rename_i hR hA
    skip
    exact ⟨by rw [vfV_e (vfC_3 hR hA (by omega)) (by decide), vfC_3 hR hA (by omega)]⟩
  · rename_i hR hA hmn
    skip
    exact ⟨by rw [vfV_e (vfC_3 hR hA (by omega)) (by decide), vfC_3 hR hA (by omega)]⟩
  · rename_i hR hA hmn
    have h12 := h
    skip
    obtain rfl : m = n := by omega
    have h3' : (seg R a m).length = (seg l s m).length ∧ (seg R a m).length ≤ 12 := by omega
    have hlen := are_len hA
    have hWl := vfW_len hL hM
    have hW := vfW_ok hR hA
    refine loopW tabOk (E := [(65, s_allR), (66, s_are), (67, s_corrected), (68, s_mAll)]) ⟨ok_areReaders, ok_areReadings, ok_corrected, ok_meetAll, trivial⟩ [(9, [(10, 0)])] (σ := Nat) (fun i => [(1, .sl 1 s m x), (4, .ptr 2 0 0), (6, .ptr 3 0 0), (7, .sl 4 0 i 0), (39, .sl 0 a m y), (40, .int .i64 m), (41, .int .i64 i)]) (fun i => [.arr (.prod .str (.prod (.int .i16) (.prod (.int .i16) .bool))) R 4 wR, .arr (.int .i64) l 1 wr, .arr (.prod (.prod (.int .i64) (.int .i64)) (.prod (.int .i64) (.int .i64))) [((0, 0), 0, 0)] 0 true, .arr .bool [false] 0 true, .arr (.prod (.prod (.int .i64) (.int .i64)) (.prod (.int .i64) (.int .i64))) ((vfW (seg R a m) (seg l s m)).take i) 4 true]) (fun i => m - i) (fun i => i ≤ m ∧ ∀ (j : Nat) (r : RdT), j < i → (seg R a m)[j]? = some r → ∀ b, (seg l s m)[j]? = some b → b.tmod r.2.2.1 = 0) 0 ⟨Nat.zero_le _, fun j a hj => by omega⟩ ?_ ?_
    · (repeat' ((try (conv => whnf)); first | (with_reducible first | refine And.intro ?_ ?_ | refine WX.of ?_) | exact zc | ((with_reducible refine VC.mk ?_); exact zw) | (with_reducible first | refine splitT ?_ | refine splitF ?_) | ((with_reducible refine splitM.mk (fun hsm => ?_) (fun hsm => ?_)) <;> (try exact zx)) | ((with_reducible refine splitB.mk (fun h => ?_) (fun h => ?_)) <;> (try simp only [zs, ne_eq] at h) <;> (try simp (disch := omega) only [w64] at h) <;> (try exact zx)) | (with_reducible intro hz; (try exact absurd hz (Nat.succ_ne_zero _)))))
    · intro i ⟨hi, hp⟩
      have htl : ((vfW (seg R a m) (seg l s m)).take i).length = i := by rw [List.length_take]; omega
      by_cases hlt : i < m
      · obtain ⟨⟨nm, b, u, up⟩, ha⟩ := get_some (l := seg R a m) (i := i) (by omega)
        obtain ⟨v, hv⟩ := get_some (l := seg l s m) (i := i) (by omega)
        have hg := allR_at hR ha
        have hvb := are_all hA hv
        (repeat' ((try (conv => whnf)); first | (with_reducible first | refine And.intro ?_ ?_ | refine WX.of ?_) | exact zc | ((with_reducible refine VC.mk ?_); exact zw) | with_reducible refine atL_i ha ?_ | with_reducible refine atL_i hv ?_ | ((with_reducible refine VC.mk ?_); exact ⟨rfl, hg, hvb⟩) | (with_reducible first | refine splitT ?_ | refine splitF ?_) | ((with_reducible refine splitM.mk (fun hsm => ?_) (fun hsm => ?_)) <;> (try exact zx)) | ((with_reducible refine splitB.mk (fun h => ?_) (fun h => ?_)) <;> (try simp only [zs, ne_eq] at h) <;> (try simp (disch := omega) only [w64] at h) <;> (try exact zx)) | (with_reducible intro hz; (try exact absurd hz (Nat.succ_ne_zero _)))))
        · exact ⟨by rw [vfV_e (vfC_4 hR hA h3' (vfM_no ha hv h)) (by decide), vfC_4 hR hA h3' (vfM_no ha hv h)]⟩
        · refine ⟨i + 1, by omega, ⟨hlt, upto_two (p := fun j (r : RdT) => ∀ b, (seg l s m)[j]? = some b → b.tmod r.2.2.1 = 0) ha (fun b' hb' => by rw [hv] at hb'; obtain rfl := Option.some.inj hb'; exact h) hp⟩, ?_⟩
          (repeat' ((try (conv => whnf)); first | (with_reducible first | refine And.intro ?_ ?_ | refine WX.of ?_) | exact zc | ((with_reducible refine VC.mk ?_); exact zw) | (with_reducible first | refine splitT ?_ | refine splitF ?_) | ((with_reducible refine splitM.mk (fun hsm => ?_) (fun hsm => ?_)) <;> (try exact zx)) | ((with_reducible refine splitB.mk (fun h => ?_) (fun h => ?_)) <;> (try simp only [zs, ne_eq] at h) <;> (try simp (disch := omega) only [w64] at h) <;> (try exact zx)) | (with_reducible intro hz; (try exact absurd hz (Nat.succ_ne_zero _)))))
          exact ⟨app_take (vfW_get ha hv)⟩
      · obtain rfl : i = m := by omega
        have hM1 := vfM_yes hL hM hp
        have hs : seg (vfW (seg R a i) (seg l s i)) 0 i = vfW (seg R a i) (seg l s i) := seg_full hWl
        rw [List.take_of_length_le (by omega)]
        cases hm : mtN (vfW (seg R a i) (seg l s i)) i with
        | none =>
          have hc := vfC_8 hR hA h3' hM1 (by rw [hL]; exact hm)
          (repeat' ((try (conv => whnf)); first | (with_reducible first | refine And.intro ?_ ?_ | refine WX.of ?_) | exact zc | ((with_reducible refine VC.mk ?_); exact zw) | ((with_reducible refine VC.mk ?_); (refine ⟨?_, ?_, ?_, ?_⟩); (omega); (omega); (omega); (rw [hs]; exact hW)) | ((with_reducible refine splitT_of ?_ ?_); (focus (simp only [hs, hm, Bool.not_true, Bool.not_false, decide_true, decide_false]; done))) | ((with_reducible refine splitF_of ?_ ?_); (focus (simp only [hs, hm, Bool.not_true, Bool.not_false, decide_true, decide_false]; done))) | (with_reducible first | refine splitT ?_ | refine splitF ?_) | ((with_reducible refine splitM.mk (fun hsm => ?_) (fun hsm => ?_)) <;> (try exact zx)) | ((with_reducible refine splitB.mk (fun h => ?_) (fun h => ?_)) <;> (try simp only [zs, ne_eq] at h) <;> (try simp (disch := omega) only [w64] at h) <;> (try exact zx)) | (with_reducible intro hz; (try exact absurd hz (Nat.succ_ne_zero _)))))
          · exact ⟨by rw [vfV_e hc (by decide), hc]⟩
          · rw [hs, hm] at h; simp at h
        | some c =>
          have hc := vfC_0 hR hA h3' hM1 (by rw [hL]; exact hm)
          (repeat' ((try (conv => whnf)); first | (with_reducible first | refine And.intro ?_ ?_ | refine WX.of ?_) | exact zc | ((with_reducible refine VC.mk ?_); exact zw) | ((with_reducible refine VC.mk ?_); (refine ⟨?_, ?_, ?_, ?_⟩); (omega); (omega); (omega); (rw [hs]; exact hW)) | ((with_reducible refine splitT_of ?_ ?_); (focus (simp only [hs, hm, Bool.not_true, Bool.not_false, decide_true, decide_false]; done))) | ((with_reducible refine splitF_of ?_ ?_); (focus (simp only [hs, hm, Bool.not_true, Bool.not_false, decide_true, decide_false]; done))) | (with_reducible first | refine splitT ?_ | refine splitF ?_) | ((with_reducible refine splitM.mk (fun hsm => ?_) (fun hsm => ?_)) <;> (try exact zx)) | ((with_reducible refine splitB.mk (fun h => ?_) (fun h => ?_)) <;> (try simp only [zs, ne_eq] at h) <;> (try simp (disch := omega) only [w64] at h) <;> (try exact zx)) | (with_reducible intro hz; (try exact absurd hz (Nat.succ_ne_zero _)))))
          · rw [hs, hm] at h; simp at h
          · refine ⟨?_⟩
            rw [hc.1, hc.2]
            simp only [hs, hm]
            rfl
theorem ok_ValueFromS : SpecOk Try.prog 22 s_vf := by
  intro args S h; unfold s_vf at h ⊢; (split at h <;> first | exact False.elim h | skip)
  dsimp only at h ⊢
  rename_i a m y s n x R wR l wr
  obtain ⟨⟨h1, h2, ho⟩, h3, h4⟩ := h
  have hL := seg_len h1
  have hM := seg_len h3
  refine funW tabOk (E := [(69, s_allR), (70, s_l06List), (71, s_l06Span), (72, s_meet)]) ⟨ok_l06Valid, ok_l06List, ok_l06Span, ok_l01Meet, trivial⟩ [(13, [(6, 0)]), (17, [(0, 1), (13, 0), (13, 1)])] (k := 2) (fn := Try.f22) rfl rfl rfl rfl rfl rfl ?_
  (repeat' ((try (conv => whnf)); first | (with_reducible first | refine And.intro ?_ ?_ | refine WX.of ?_) | exact zc | ((with_reducible refine VC.mk ?_); exact zw) | ((with_reducible refine VC.mk ?_); (refine ⟨h1, ?_, ho⟩); (omega)) | (with_reducible first | refine splitT ?_ | refine splitF ?_) | ((with_reducible refine splitM.mk (fun hsm => ?_) (fun hsm => ?_)) <;> (try exact zx)) | ((with_reducible refine splitB.mk (fun h => ?_) (fun h => ?_)) <;> (try simp only [zs, ne_eq] at h) <;> (try simp (disch := omega) only [w64] at h) <;> (try exact zx)) | (with_reducible intro hz; (try exact absurd hz (Nat.succ_ne_zero _)))))
  · exact ⟨by rw [vfV_e (vfC_1 h) (by decide), vfC_1 h]⟩
  · rename_i hR
    have h' : areB (seg l s n) = false := code_2.1 h
    exact ⟨by rw [vfV_e (vfC_2 hR h') (by decide), vfC_2 hR h', areCode, h']; rfl⟩
  · rename_i hR hA
    have hA := code_0.1 hA
    exact ⟨by rw [vfV_e (vfC_3 hR hA (by omega)) (by decide), vfC_3 hR hA (by omega)]⟩
  · rename_i hR hA hmn
    have hA := code_0.1 hA
    exact ⟨by rw [vfV_e (vfC_3 hR hA (by omega)) (by decide), vfC_3 hR hA (by omega)]⟩
  · rename_i hR hA hmn
    have h12 := h
    have hA := code_0.1 hA
    obtain rfl : m = n := by omega
    have h3' : (seg R a m).length = (seg l s m).length ∧ (seg R a m).length ≤ 12 := by omega
    have hlen := are_len hA
    have hWl := vfW_len hL hM
    have hW := vfW_ok hR hA
    refine loopW tabOk (E := [(69, s_allR), (70, s_l06List), (71, s_l06Span), (72, s_meet)]) ⟨ok_l06Valid, ok_l06List, ok_l06Span, ok_l01Meet, trivial⟩ [(13, [(6, 0)]), (17, [(0, 1), (13, 0), (13, 1)])] (σ := Nat) (fun i => [(0, .sl 0 a m y), (1, .sl 1 s m x), (4, .ptr 2 0 0), (7, .int .i64 i)]) (fun i => [.arr (.prod .str (.prod (.int .i16) (.prod (.int .i16) .bool))) R 4 wR, .arr (.int .i64) l 1 wr, .arr (.prod (.prod (.int .i64) (.int .i64)) (.prod (.int .i64) (.int .i64))) [((0, 0), 0, 0)] 0 true]) (fun i => m - i) (fun i => i ≤ m ∧ ∀ (j : Nat) (r : RdT), j < i → (seg R a m)[j]? = some r → ∀ b, (seg l s m)[j]? = some b → b.tmod r.2.2.1 = 0) 0 ⟨Nat.zero_le _, fun j a hj => by omega⟩ ?_ ?_
    · (repeat' ((try (conv => whnf)); first | (with_reducible first | refine And.intro ?_ ?_ | refine WX.of ?_) | exact zc | ((with_reducible refine VC.mk ?_); exact zw) | (with_reducible first | refine splitT ?_ | refine splitF ?_) | ((with_reducible refine splitM.mk (fun hsm => ?_) (fun hsm => ?_)) <;> (try exact zx)) | ((with_reducible refine splitB.mk (fun h => ?_) (fun h => ?_)) <;> (try simp only [zs, ne_eq] at h) <;> (try simp (disch := omega) only [w64] at h) <;> (try exact zx)) | (with_reducible intro hz; (try exact absurd hz (Nat.succ_ne_zero _)))))
    · intro i ⟨hi, hp⟩
      by_cases hlt : i < m
      · obtain ⟨⟨nm, b, u, up⟩, ha⟩ := get_some (l := seg R a m) (i := i) (by omega)
        obtain ⟨v, hv⟩ := get_some (l := seg l s m) (i := i) (by omega)
        have hg := allR_at hR ha
        have hgb := hg
        unfold gB at hgb
        have hvb := are_all hA hv
        have htl := tmod_lt (a := v) (b := u) (by omega)
        (repeat' ((try (conv => whnf)); first | (with_reducible first | refine And.intro ?_ ?_ | refine WX.of ?_) | exact zc | ((with_reducible refine VC.mk ?_); exact zw) | with_reducible refine atL_i ha ?_ | with_reducible refine atL_i hv ?_ | (with_reducible first | refine splitT ?_ | refine splitF ?_) | ((with_reducible refine splitM.mk (fun hsm => ?_) (fun hsm => ?_)) <;> (try exact zx)) | ((with_reducible refine splitB.mk (fun h => ?_) (fun h => ?_)) <;> (try simp only [zs, ne_eq] at h) <;> (try simp (disch := omega) only [w64] at h) <;> (try exact zx)) | (with_reducible intro hz; (try exact absurd hz (Nat.succ_ne_zero _)))))
        · exact ⟨by rw [vfV_e (vfC_4 hR hA h3' (vfM_no ha hv h)) (by decide), vfC_4 hR hA h3' (vfM_no ha hv h)]⟩
        · refine ⟨i + 1, by omega, ⟨hlt, upto_two (p := fun j (r : RdT) => ∀ b, (seg l s m)[j]? = some b → b.tmod r.2.2.1 = 0) ha (fun b' hb' => by rw [hv] at hb'; obtain rfl := Option.some.inj hb'; exact h) hp⟩, ?_⟩
          (repeat' ((try (conv => whnf)); first | (with_reducible first | refine And.intro ?_ ?_ | refine WX.of ?_) | exact zc | ((with_reducible refine VC.mk ?_); exact zw) | (with_reducible first | refine splitT ?_ | refine splitF ?_) | ((with_reducible refine splitM.mk (fun hsm => ?_) (fun hsm => ?_)) <;> (try exact zx)) | ((with_reducible refine splitB.mk (fun h => ?_) (fun h => ?_)) <;> (try simp only [zs, ne_eq] at h) <;> (try simp (disch := omega) only [w64] at h) <;> (try exact zx)) | (with_reducible intro hz; (try exact absurd hz (Nat.succ_ne_zero _)))))
      · obtain rfl : i = m := by omega
        have hM1 := vfM_yes hL hM hp
        obtain ⟨⟨nm, b, u, up⟩, ha⟩ := get_some (l := seg R a i) (i := 0) (by omega)
        obtain ⟨v, hv⟩ := get_some (l := seg l s i) (i := 0) (by omega)
        have hg := allR_at hR ha
        have hvb := are_all hA hv
        have e0 : (R[a + Int.toNat 0]?).getD ([], 0, 0, false) = (nm, b, u, up) := by rw [show a + Int.toNat 0 = a + 0 from rfl, (seg_get ha).1]; rfl
        (repeat' ((try (conv => whnf)); first | (with_reducible first | refine And.intro ?_ ?_ | refine WX.of ?_) | exact zc | ((with_reducible refine VC.mk ?_); exact zw) | with_reducible refine atL_p (by simpa using (seg_get ha).1) ?_ | with_reducible refine atL_p (by simpa using (seg_get hv).1) ?_ | (with_reducible first | refine splitT ?_ | refine splitF ?_) | ((with_reducible refine splitM.mk (fun hsm => ?_) (fun hsm => ?_)) <;> (try exact zx)) | ((with_reducible refine splitB.mk (fun h => ?_) (fun h => ?_)) <;> (try simp only [zs, ne_eq] at h) <;> (try simp (disch := omega) only [w64] at h) <;> (try exact zx)) | (with_reducible intro hz; (try exact absurd hz (Nat.succ_ne_zero _)))))
        · exact ⟨⟨by have := (List.getElem?_eq_some_iff.1 (seg_get ha).1).1; simpa using this, by rw [e0]; exact hg, hvb⟩⟩
        · have hw0 : (vfW (seg R a i) (seg l s i))[0]? = some (spN b u v) := vfW_get ha hv
          have hB0 := hW _ (List.mem_of_getElem? hw0)
          have hm1 : mtN (vfW (seg R a i) (seg l s i)) 1 = some (spN b u v) := by rw [mtN_step (i := 0) hw0 hw0, if_pos (mt_self hB0).2, (mt_self hB0).1]
          refine loopW tabOk (E := [(69, s_allR), (70, s_l06List), (71, s_l06Span), (72, s_meet)]) ⟨ok_l06Valid, ok_l06List, ok_l06Span, ok_l01Meet, trivial⟩ [(13, [(6, 0)]), (17, [(0, 1), (13, 0), (13, 1)])] (σ := Nat × SpT) (fun z => [(0, .sl 0 a i y), (1, .sl 1 s i x), (4, .ptr 2 0 0), (8, .ptr 3 0 0), (9, .int .i64 z.1)]) (fun z => [.arr (.prod .str (.prod (.int .i16) (.prod (.int .i16) .bool))) R 4 wR, .arr (.int .i64) l 1 wr, .arr (.prod (.prod (.int .i64) (.int .i64)) (.prod (.int .i64) (.int .i64))) [((0, 0), 0, 0)] 0 true, .arr (.prod (.prod (.int .i64) (.int .i64)) (.prod (.int .i64) (.int .i64))) [z.2] 0 true]) (fun z => i - z.1) (fun z => (1 ≤ z.1 ∧ z.1 ≤ i) ∧ mtN (vfW (seg R a i) (seg l s i)) z.1 = some z.2) (1, spN b u v) ⟨⟨Nat.le_refl _, by dsimp only; omega⟩, hm1⟩ ?_ ?_
          · (repeat' ((try (conv => whnf)); first | (with_reducible first | refine And.intro ?_ ?_ | refine WX.of ?_) | exact zc | ((with_reducible refine VC.mk ?_); exact zw) | (with_reducible first | refine splitT ?_ | refine splitF ?_) | ((with_reducible refine splitM.mk (fun hsm => ?_) (fun hsm => ?_)) <;> (try exact zx)) | ((with_reducible refine splitB.mk (fun h => ?_) (fun h => ?_)) <;> (try simp only [zs, ne_eq] at h) <;> (try simp (disch := omega) only [w64] at h) <;> (try exact zx)) | (with_reducible intro hz; (try exact absurd hz (Nat.succ_ne_zero _)))))
            all_goals exact ⟨by simp only [e0]; rfl⟩
          · intro ⟨k, ⟨⟨cp, cq⟩, cr, cs⟩⟩ ⟨⟨hk1, hk2⟩, hm⟩
            dsimp only at hk1 hk2 hm ⊢
            have hcB := spB_f (mtN_ok hW hm)
            by_cases hlt : k < i
            · obtain ⟨⟨nm', b', u', up'⟩, ha'⟩ := get_some (l := seg R a i) (i := k) (by omega)
              obtain ⟨v', hv'⟩ := get_some (l := seg l s i) (i := k) (by omega)
              have hg' := allR_at hR ha'
              have hvb' := are_all hA hv'
              have hag := (seg_get ha').1
              have e : (R[a + ((k : Nat) : Int).toNat]?).getD ([], 0, 0, false) = (nm', b', u', up') := by rw [Int.toNat_natCast, hag]; rfl
              have hwk : (vfW (seg R a i) (seg l s i))[k]? = some (spN b' u' v') := vfW_get ha' hv'
              have hwB := spB_f (hW _ (List.mem_of_getElem? hwk))
              have hst := mtN_step hm hwk
              (repeat' ((try (conv => whnf)); first | (with_reducible first | refine And.intro ?_ ?_ | refine WX.of ?_) | exact zc | ((with_reducible refine VC.mk ?_); exact zw) | with_reducible refine atL_i hv' ?_ | ((with_reducible refine VC.mk ?_); (refine ⟨?_, ?_, hvb'⟩); (have := (List.getElem?_eq_some_iff.1 hag).1; rw [Int.toNat_natCast]; exact this); (rw [e]; exact hg')) | ((with_reducible refine VC.mk ?_); (simp only [e]); exact ⟨⟨smF_ok hcB.1, smF_ok hcB.2.1⟩, smF_ok hwB.1, smF_ok hwB.2.1⟩) | (with_reducible first | refine splitT ?_ | refine splitF ?_) | ((with_reducible refine splitM.mk (fun hsm => ?_) (fun hsm => ?_)) <;> (try exact zx)) | ((with_reducible refine splitB.mk (fun h => ?_) (fun h => ?_)) <;> (try simp only [zs, ne_eq] at h) <;> (try simp (disch := omega) only [w64] at h) <;> (try exact zx)) | (with_reducible intro hz; (try exact absurd hz (Nat.succ_ne_zero _)))))
              · simp only [e] at h
                have hk : mtOk ((cp, cq), cr, cs) (spN b' u' v') = false := decide_eq_false (Int.not_le.2 h)
                rw [hk, if_neg (by simp)] at hst
                have hnn : mtN (vfW (seg R a i) (seg l s i)) i = none := by have := mtN_none hst (i - (k + 1)); rwa [show k + 1 + (i - (k + 1)) = i by omega] at this
                have hc := vfC_8 hR hA h3' hM1 (by rw [hL]; exact hnn)
                exact ⟨by rw [vfV_e hc (by decide), hc]⟩
              · simp only [e] at h
                have hk : mtOk ((cp, cq), cr, cs) (spN b' u' v') = true := decide_eq_true h
                rw [hk, if_pos rfl] at hst
                refine ⟨(k + 1, mtS ((cp, cq), cr, cs) (spN b' u' v')), by dsimp only; omega, ⟨⟨by dsimp only; omega, hlt⟩, hst⟩, ?_⟩
                (repeat' ((try (conv => whnf)); first | (with_reducible first | refine And.intro ?_ ?_ | refine WX.of ?_) | exact zc | ((with_reducible refine VC.mk ?_); exact zw) | (with_reducible first | refine splitT ?_ | refine splitF ?_) | ((with_reducible refine splitM.mk (fun hsm => ?_) (fun hsm => ?_)) <;> (try exact zx)) | ((with_reducible refine splitB.mk (fun h => ?_) (fun h => ?_)) <;> (try simp only [zs, ne_eq] at h) <;> (try simp (disch := omega) only [w64] at h) <;> (try exact zx)) | (with_reducible intro hz; (try exact absurd hz (Nat.succ_ne_zero _)))))
                all_goals exact ⟨by simp only [e]; rfl⟩
            · obtain rfl : k = i := by omega
              have hc := vfC_0 hR hA h3' hM1 (by rw [hL]; exact hm)
              rw [hc.1, hc.2]
              (repeat' ((try (conv => whnf)); first | (with_reducible first | refine And.intro ?_ ?_ | refine WX.of ?_) | exact zc | ((with_reducible refine VC.mk ?_); exact zw) | (with_reducible first | refine splitT ?_ | refine splitF ?_) | ((with_reducible refine splitM.mk (fun hsm => ?_) (fun hsm => ?_)) <;> (try exact zx)) | ((with_reducible refine splitB.mk (fun h => ?_) (fun h => ?_)) <;> (try simp only [zs, ne_eq] at h) <;> (try simp (disch := omega) only [w64] at h) <;> (try exact zx)) | (with_reducible intro hz; (try exact absurd hz (Nat.succ_ne_zero _)))))
end Go.Proofs.Ytghafpklomnhlaa.Eng
set_option linter.unusedVariables false
set_option linter.unusedSimpArgs false
namespace Go.Proofs.Ytghafpklomnhlaa.Eng
open Go Go.RowKit
set_option maxRecDepth 100000
/-- What is read of a value: the value lies in its span. -/
theorem rd_in {b u p q : Int} {up : Bool} (hu : 1 ≤ u) (hq : 1 ≤ q) : loN b u (rdN b u up p q) * q ≤ 2 * p ∧ 2 * p ≤ hiN b u (rdN b u up p q) * q := by
  have hY : 0 < u * q := Int.mul_pos (by omega) (by omega)
  unfold rdN loN hiN
  generalize hX : 2 * (p + b * q) = X
  generalize hYe : u * q = Y at hY
  have e2 : 2 * p = X - 2 * (b * q) := by rw [← hX, Int.mul_add]; omega
  rw [e2]
  split
  · have h1 := Int.mul_ediv_add_emod (X + Y) (2 * Y)
    have h2 := Int.emod_nonneg (X + Y) (show 2 * Y ≠ 0 by omega)
    have h3 := Int.emod_lt_of_pos (X + Y) (show 0 < 2 * Y by omega)
    generalize (X + Y) / (2 * Y) = k at *
    generalize (X + Y) % (2 * Y) = r at *
    have e : (2 * (u * k - b) - u) * q = 2 * (Y * k) - 2 * (b * q) - Y := by
      rw [← hYe]; simp only [Int.sub_mul, Int.mul_sub, Int.mul_assoc]; rw [Int.mul_comm k q]
    have e' : (2 * (u * k - b) + u) * q = 2 * (Y * k) - 2 * (b * q) + Y := by
      rw [← hYe]; simp only [Int.sub_mul, Int.add_mul, Int.mul_sub, Int.mul_assoc]; rw [Int.mul_comm k q]
    rw [e, e']
    rw [Int.mul_assoc] at h1
    omega
  · have h1 := Int.mul_ediv_add_emod (Y - X) (2 * Y)
    have h2 := Int.emod_nonneg (Y - X) (show 2 * Y ≠ 0 by omega)
    have h3 := Int.emod_lt_of_pos (Y - X) (show 0 < 2 * Y by omega)
    generalize (Y - X) / (2 * Y) = k at *
    generalize (Y - X) % (2 * Y) = r at *
    have e : (2 * (-u * k - b) - u) * q = -(2 * (Y * k)) - 2 * (b * q) - Y := by
      rw [← hYe]; simp only [Int.sub_mul, Int.mul_sub, Int.neg_mul, Int.mul_neg, Int.mul_assoc]; rw [Int.mul_comm k q]
    have e' : (2 * (-u * k - b) + u) * q = -(2 * (Y * k)) - 2 * (b * q) + Y := by
      rw [← hYe]; simp only [Int.sub_mul, Int.add_mul, Int.mul_sub, Int.neg_mul, Int.mul_neg, Int.mul_assoc]; rw [Int.mul_comm k q]
    rw [e, e']
    rw [Int.mul_assoc] at h1
    omega
def evLs (R : List RdT) (p q : Int) : List Int := R.map fun r => rdN r.2.1 r.2.2.1 r.2.2.2 p q
theorem evLs_get {R : List RdT} {p q : Int} {i : Nat} {nm : List UInt8} {b u : Int} {up : Bool} (h : R[i]? = some (nm, b, u, up)) : (evLs R p q)[i]? = some (rdN b u up p q) := by unfold evLs; rw [List.getElem?_map, h]; rfl
theorem evLs_len {R : List RdT} {p q : Int} : (evLs R p q).length = R.length := by simp [evLs]
end Go.Proofs.Ytghafpklomnhlaa.Eng
set_option linter.unusedVariables false
set_option linter.unusedSimpArgs false
namespace Go.Proofs.Ytghafpklomnhlaa.Eng
open Go Go.RowKit
set_option maxRecDepth 100000
end Go.Proofs.Ytghafpklomnhlaa.Eng
set_option linter.unusedVariables false
set_option linter.unusedSimpArgs false
namespace Go.Proofs.Ytghafpklomnhlaa.Eng
open Go Go.RowKit
set_option maxRecDepth 100000
theorem atL_q {α : Type} {l : List α} {i j : Nat} {a : α} {K : α → Prop} (h : l[i]? = some a) (e : j = i) (hk : K a) : atL l j K := by
  subst e; exact atL_iff.2 ⟨a, h, hk⟩
end Go.Proofs.Ytghafpklomnhlaa.Eng
set_option linter.unusedVariables false
set_option linter.unusedSimpArgs false
namespace Go.Proofs.Ytghafpklomnhlaa.Eng
open Go Go.RowKit
set_option maxRecDepth 100000
end Go.Proofs.Ytghafpklomnhlaa.Eng
set_option linter.unusedVariables false
set_option linter.unusedSimpArgs false
namespace Go.Proofs.Ytghafpklomnhlaa.Eng
open Go Go.RowKit
set_option maxRecDepth 100000
end Go.Proofs.Ytghafpklomnhlaa.Eng
set_option linter.unusedVariables false
set_option linter.unusedSimpArgs false
namespace Go.Proofs.Ytghafpklomnhlaa.Eng
open Go Go.RowKit
set_option maxRecDepth 100000
end Go.Proofs.Ytghafpklomnhlaa.Eng
set_option linter.unusedVariables false
set_option linter.unusedSimpArgs false
namespace Go.Proofs.Ytghafpklomnhlaa.Eng
open Go Go.RowKit
set_option maxRecDepth 100000
end Go.Proofs.Ytghafpklomnhlaa.Eng
set_option linter.unusedVariables false
set_option linter.unusedSimpArgs false
namespace Go.Proofs.Ytghafpklomnhlaa.Eng
open Go Go.RowKit
set_option maxRecDepth 100000
end Go.Proofs.Ytghafpklomnhlaa.Eng
set_option linter.unusedVariables false
set_option linter.unusedSimpArgs false
namespace Go.Proofs.Ytghafpklomnhlaa.Eng
open Go Go.RowKit
set_option maxRecDepth 100000
end Go.Proofs.Ytghafpklomnhlaa.Eng
set_option linter.unusedVariables false
set_option linter.unusedSimpArgs false
namespace Go.Proofs.Ytghafpklomnhlaa.Eng
open Go Go.RowKit
set_option maxRecDepth 100000
/-- Halves of whole numbers. -/
def hal (a : Int) : Int × Int := (redP a 2, redQ a 2)
theorem red_eq {p q p' q' : Int} (hq : 0 < q) (hq' : 0 < q') (h : p * q' = p' * q) : redP p q = redP p' q' ∧ redQ p q = redQ p' q' := by
  have h1 := red_scale (g := q') (x := p) (y := q) hq' (by omega)
  have h2 := red_scale (g := q) (x := p') (y := q') hq (by omega)
  have e1 : q' * p = q * p' := by rw [Int.mul_comm, h, Int.mul_comm]
  have e2 : q' * q = q * q' := Int.mul_comm ..
  rw [e1, e2] at h1
  exact ⟨h1.1.symm.trans h2.1, h1.2.symm.trans h2.2⟩
theorem hal_q (a : Int) : 0 < (hal a).2 := redQ_pos (p := a) (q := 2) (by omega)
theorem hal_x (a : Int) : (hal a).1 * 2 = a * (hal a).2 := by
  have h := red_back (p := a) (q := 2) (by omega)
  unfold hal
  dsimp only
  generalize redP a 2 = P at *
  generalize redQ a 2 = Q at *
  generalize redG a 2 = g at *
  obtain ⟨h1, h2⟩ := h
  subst h1
  rw [h2]
  grind
theorem hal_lt (a b : Int) : (hal a).1 * (hal b).2 < (hal b).1 * (hal a).2 ↔ a < b := by
  have h1 := hal_x a
  have h2 := hal_x b
  have q1 := hal_q a
  have q2 := hal_q b
  generalize (hal a).1 = P at *
  generalize (hal a).2 = Q at *
  generalize (hal b).1 = R at *
  generalize (hal b).2 = S at *
  have e1 : (P * S) * 2 = a * (Q * S) := by grind
  have e2 : (R * Q) * 2 = b * (Q * S) := by grind
  have hp : 0 < Q * S := Int.mul_pos q1 q2
  constructor
  · intro h
    have : a * (Q * S) < b * (Q * S) := by omega
    exact Int.lt_of_mul_lt_mul_right this (by omega)
  · intro h
    have := Int.mul_lt_mul_of_pos_right h hp
    omega
theorem hal_ok {a : Int} (h : -1000000000 ≤ a ∧ a ≤ 1000000000) : fOk (hal a).1 (hal a).2 = true := by
  have := redOk_small (p := a) (q := 2) h (by omega)
  exact this
theorem tol_red {p q p' q' : Int} (hq : 0 < q) (hq' : 0 < q') (h : p * q' = p' * q) (ho : redOk p' q' = true) : tolP p q = redP p' q' ∧ tolQ p q = redQ p' q' ∧ redOk p q = true := by
  obtain ⟨e1, e2⟩ := red_eq hq hq' h
  have : redOk p q = true := by unfold redOk at ho ⊢; rw [e1, e2]; exact ho
  unfold tolP tolQ
  rw [if_pos this, if_pos this]
  exact ⟨e1, e2, this⟩
theorem red_x {p q : Int} (hq : 0 < q) : redP p q * q = p * redQ p q := by
  have h := red_back (p := p) (q := q) hq
  generalize redP p q = P at *
  generalize redQ p q = Q at *
  generalize redG p q = g at *
  obtain ⟨h1, h2⟩ := h
  rw [h1]
  conv => lhs; rw [h2]
  grind
end Go.Proofs.Ytghafpklomnhlaa.Eng
set_option linter.unusedVariables false
set_option linter.unusedSimpArgs false
namespace Go.Proofs.Ytghafpklomnhlaa.Eng
open Go Go.RowKit
set_option maxRecDepth 100000
/-- The bytes from which is drawn, at the name b. -/
def codP (b : Nat) : SV → SB → Prop
  | .opt c b' n 0, .arrO (.int .u8) l 1 => b' = b ∧ (n ≤ l.length ∧ (c = true → l = []) ∧ n ≤ 1048576) ∧ ∀ a ∈ l, 0 ≤ a ∧ a ≤ (255 : Int)
  | .sl b' s n _, .arr (.int .u8) l 1 _ => b' = b ∧ (s + n ≤ l.length ∧ n ≤ 1048576) ∧ ∀ a ∈ l, 0 ≤ a ∧ a ≤ (255 : Int)
  | _, _ => False
def codL : SV → SB → List Int
  | .opt _ _ n 0, .arrO (.int .u8) l 1 => seg l 0 n
  | .sl _ s n _, .arr (.int .u8) l 1 _ => seg l s n
  | _, _ => []
theorem codP_c {b : Nat} {cv : SV} {rb : SB} (h : codP b cv rb) : (∃ (c : Bool) (n : Nat) (l : List Int), cv = .opt c b n 0 ∧ rb = .arrO (.int .u8) l 1 ∧ codL cv rb = seg l 0 n ∧ (n ≤ l.length ∧ (c = true → l = []) ∧ n ≤ 1048576) ∧ ∀ a ∈ l, 0 ≤ a ∧ a ≤ (255 : Int)) ∨
    ∃ (s n x : Nat) (l : List Int) (wr : Bool), cv = .sl b s n x ∧ rb = .arr (.int .u8) l 1 wr ∧ codL cv rb = seg l s n ∧ (s + n ≤ l.length ∧ n ≤ 1048576) ∧ ∀ a ∈ l, 0 ≤ a ∧ a ≤ (255 : Int) := by
  unfold codP at h
  split at h
  · obtain ⟨rfl, h1, h2⟩ := h; exact .inl ⟨_, _, _, rfl, rfl, rfl, h1, h2⟩
  · obtain ⟨rfl, h1, h2⟩ := h; exact .inr ⟨_, _, _, _, _, rfl, rfl, rfl, h1, h2⟩
  · exact h.elim
/-- What the code gives at k, and the seed behind k draws. -/
def byt (L : List Int) (k : Nat) : Int := (L[k]?).getD 0
def sdV (L : List Int) : Nat → Int
  | 0 => 0
  | k + 1 => IntKind.u64.wrap (IntKind.u64.wrap (IntKind.u64.wrap (sdV L k * 6364136223846793005) + IntKind.u64.wrap (byt L k)) + 1442695040888963407)
def sdI (L : List Int) (t : Int) : Int := sdV L t.toNat
def nxI (L : List Int) (t : Int) : Int := if t < L.length then byt L t.toNat else
  IntKind.i64.wrap (IntKind.u64.wrap ((BitVec.ofInt IntKind.u64.bits ((sdI L (t + 1)).fdiv (2 ^ (min (40 : Int).toNat IntKind.u64.bits))) &&& BitVec.ofInt IntKind.u64.bits 255).toNat))
theorem byt_b {L : List Int} (h : ∀ a ∈ L, 0 ≤ a ∧ a ≤ (255 : Int)) (k : Nat) : 0 ≤ byt L k ∧ byt L k ≤ 255 := by
  unfold byt
  cases hk : L[k]? with
  | none => exact ⟨Int.le_refl _, by decide⟩
  | some a => exact h a (List.mem_of_getElem? hk)
theorem sdI_s {L : List Int} {t : Int} (ht : 0 ≤ t) : sdI L (t + 1) = IntKind.u64.wrap (IntKind.u64.wrap (IntKind.u64.wrap (sdI L t * 6364136223846793005) + IntKind.u64.wrap (byt L t.toNat)) + 1442695040888963407) := by
  unfold sdI
  rw [show (t + 1).toNat = t.toNat + 1 by omega]
  rfl
theorem and_255 (x : BitVec 64) : (x &&& BitVec.ofInt 64 255).toNat ≤ 255 := by
  rw [BitVec.toNat_and]
  exact Nat.le_trans Nat.and_le_right (by decide)
theorem nxI_b {L : List Int} (h : ∀ a ∈ L, 0 ≤ a ∧ a ≤ (255 : Int)) (t : Int) : 0 ≤ nxI L t ∧ nxI L t ≤ 255 := by
  unfold nxI
  split
  · exact byt_b h _
  · have := and_255 (BitVec.ofInt 64 ((sdI L (t + 1)).fdiv (2 ^ (min (40 : Int).toNat IntKind.u64.bits))))
    change 0 ≤ IntKind.i64.wrap (IntKind.u64.wrap (((BitVec.ofInt 64 ((sdI L (t + 1)).fdiv (2 ^ (min (40 : Int).toNat IntKind.u64.bits))) &&& BitVec.ofInt 64 255).toNat : Nat) : Int)) ∧ IntKind.i64.wrap (IntKind.u64.wrap (((BitVec.ofInt 64 ((sdI L (t + 1)).fdiv (2 ^ (min (40 : Int).toNat IntKind.u64.bits))) &&& BitVec.ofInt 64 255).toNat : Nat) : Int)) ≤ 255
    generalize (BitVec.ofInt 64 ((sdI L (t + 1)).fdiv (2 ^ (min (40 : Int).toNat IntKind.u64.bits))) &&& BitVec.ofInt 64 255).toNat = y at this
    have e1 : IntKind.u64.wrap (y : Int) = y := by simp [IntKind.wrap, IntKind.bits, IntKind.signed]; omega
    rw [e1, w64 (by omega)]
    omega
theorem cod_b {b : Nat} {cv : SV} {rb : SB} (h : codP b cv rb) : ∀ a ∈ codL cv rb, 0 ≤ a ∧ a ≤ (255 : Int) := by
  rcases codP_c h with ⟨c, n, l, _, _, e, _, h2⟩ | ⟨s, n, x, l, wr, _, _, e, _, h2⟩
  · rw [e]; exact fun a ha => h2 a (List.mem_of_mem_take (List.mem_of_mem_drop (by simpa [seg] using ha : a ∈ (l.take n).drop 0)))
  · rw [e]; exact fun a ha => h2 a (List.mem_of_mem_drop (List.mem_of_mem_take ha))
/-- Where the source stands. -/
def srcP (b : Nat) (cv : SV) (rb : SB) (t sd : Int) : Prop := codP b cv rb ∧ (0 ≤ t ∧ t ≤ 1000000000000) ∧ sd = sdI (codL cv rb) t
def s_next : Spec := fun args S => match args, S with
  | [.ptr 0 0 0], [.box [cv, .int .i64 t, .int .u64 sd] true false, rb] => ⟨srcP 1 cv rb t sd, .int .i64 (nxI (codL cv rb) t), [.box [cv, .int .i64 (t + 1), .int .u64 (sdI (codL cv rb) (t + 1))] true false, rb]⟩
  | _, _ => noSpec
theorem ok_next : SpecOk Try.prog 115 s_next := by
  intro args S h; unfold s_next at h ⊢; (split at h <;> first | exact False.elim h | skip)
  dsimp only at h ⊢
  rename_i cv t sd rb
  obtain ⟨hc, ht, rfl⟩ := h
  have hbt := byt_b (cod_b hc) t.toNat
  have hst := sdI_s (L := codL cv rb) ht.1
  rcases codP_c hc with ⟨c, n, l, rfl, rfl, e, ⟨h1, h2, h3⟩, hb⟩ | ⟨s, n, x, l, wr, rfl, rfl, e, ⟨h1, h3⟩, hb⟩
  · rw [e] at hbt hst ⊢
    have hL : (seg l 0 n).length = n := seg_len (by omega)
    by_cases hlt : t < n
    · have hnx : nxI (seg l 0 n) t = byt (seg l 0 n) t.toNat := by unfold nxI; rw [hL, if_pos hlt]
      obtain ⟨a, ha⟩ := get_some (l := seg l 0 n) (i := t.toNat) (by omega)
      have ha2 := (seg_get ha).1
      rw [Nat.zero_add] at ha2
      have hba : byt (seg l 0 n) t.toNat = a := by unfold byt; rw [ha]; rfl
      rw [hnx]
      refine funW tabOk (E := []) trivial [] (k := 2) (fn := Try.f115) rfl rfl rfl rfl rfl rfl ?_
      rw [hba] at hbt hst
      (repeat' ((try (conv => whnf)); first | (with_reducible first | refine And.intro ?_ ?_ | refine WX.of ?_) | exact zc | ((with_reducible refine VC.mk ?_); exact zw) | with_reducible refine atL_q ha2 (by omega) ?_ | (with_reducible first | refine splitT ?_ | refine splitF ?_) | ((with_reducible refine splitM.mk (fun hsm => ?_) (fun hsm => ?_)) <;> (try exact zx)) | ((with_reducible refine splitB.mk (fun h => ?_) (fun h => ?_)) <;> (try simp only [zs, ne_eq] at h) <;> (try simp (disch := omega) only [w64] at h) <;> (try exact zx)) | (with_reducible intro hz; (try exact absurd hz (Nat.succ_ne_zero _)))))
      · exact ⟨by rw [hst, w64 (n := t + 1) (by omega), w64 (n := a) (by omega)]⟩
    · have hb0 : byt (seg l 0 n) t.toNat = 0 := by unfold byt; rw [List.getElem?_eq_none (by omega)]; rfl
      rw [hb0] at hst
      have hnx : nxI (seg l 0 n) t = IntKind.i64.wrap (IntKind.u64.wrap ((BitVec.ofInt IntKind.u64.bits ((sdI (seg l 0 n) (t + 1)).fdiv (2 ^ (min (40 : Int).toNat IntKind.u64.bits))) &&& BitVec.ofInt IntKind.u64.bits 255).toNat)) := by unfold nxI; rw [hL, if_neg hlt]
      rw [hnx, hst]
      refine funW tabOk (E := []) trivial [] (k := 2) (fn := Try.f115) rfl rfl rfl rfl rfl rfl ?_
      (repeat' ((try (conv => whnf)); first | (with_reducible first | refine And.intro ?_ ?_ | refine WX.of ?_) | exact zc | ((with_reducible refine VC.mk ?_); exact zw) | (with_reducible first | refine splitT ?_ | refine splitF ?_) | ((with_reducible refine splitM.mk (fun hsm => ?_) (fun hsm => ?_)) <;> (try exact zx)) | ((with_reducible refine splitB.mk (fun h => ?_) (fun h => ?_)) <;> (try simp only [zs, ne_eq] at h) <;> (try simp (disch := omega) only [w64] at h) <;> (try exact zx)) | (with_reducible intro hz; (try exact absurd hz (Nat.succ_ne_zero _)))))
      all_goals exact ⟨by rw [w64 (n := t + 1) (by omega)]⟩
  · rw [e] at hbt hst ⊢
    have hL : (seg l s n).length = n := seg_len (by omega)
    by_cases hlt : t < n
    · have hnx : nxI (seg l s n) t = byt (seg l s n) t.toNat := by unfold nxI; rw [hL, if_pos hlt]
      obtain ⟨a, ha⟩ := get_some (l := seg l s n) (i := t.toNat) (by omega)
      have ha2 := (seg_get ha).1
      have hba : byt (seg l s n) t.toNat = a := by unfold byt; rw [ha]; rfl
      rw [hnx]
      refine funW tabOk (E := []) trivial [] (k := 2) (fn := Try.f115) rfl rfl rfl rfl rfl rfl ?_
      rw [hba] at hbt hst
      (repeat' ((try (conv => whnf)); first | (with_reducible first | refine And.intro ?_ ?_ | refine WX.of ?_) | exact zc | ((with_reducible refine VC.mk ?_); exact zw) | with_reducible refine atL_q ha2 (by omega) ?_ | (with_reducible first | refine splitT ?_ | refine splitF ?_) | ((with_reducible refine splitM.mk (fun hsm => ?_) (fun hsm => ?_)) <;> (try exact zx)) | ((with_reducible refine splitB.mk (fun h => ?_) (fun h => ?_)) <;> (try simp only [zs, ne_eq] at h) <;> (try simp (disch := omega) only [w64] at h) <;> (try exact zx)) | (with_reducible intro hz; (try exact absurd hz (Nat.succ_ne_zero _)))))
      · exact ⟨by rw [hst, w64 (n := t + 1) (by omega), w64 (n := a) (by omega)]⟩
    · have hb0 : byt (seg l s n) t.toNat = 0 := by unfold byt; rw [List.getElem?_eq_none (by omega)]; rfl
      rw [hb0] at hst
      have hnx : nxI (seg l s n) t = IntKind.i64.wrap (IntKind.u64.wrap ((BitVec.ofInt IntKind.u64.bits ((sdI (seg l s n) (t + 1)).fdiv (2 ^ (min (40 : Int).toNat IntKind.u64.bits))) &&& BitVec.ofInt IntKind.u64.bits 255).toNat)) := by unfold nxI; rw [hL, if_neg hlt]
      rw [hnx, hst]
      refine funW tabOk (E := []) trivial [] (k := 2) (fn := Try.f115) rfl rfl rfl rfl rfl rfl ?_
      (repeat' ((try (conv => whnf)); first | (with_reducible first | refine And.intro ?_ ?_ | refine WX.of ?_) | exact zc | ((with_reducible refine VC.mk ?_); exact zw) | (with_reducible first | refine splitT ?_ | refine splitF ?_) | ((with_reducible refine splitM.mk (fun hsm => ?_) (fun hsm => ?_)) <;> (try exact zx)) | ((with_reducible refine splitB.mk (fun h => ?_) (fun h => ?_)) <;> (try simp only [zs, ne_eq] at h) <;> (try simp (disch := omega) only [w64] at h) <;> (try exact zx)) | (with_reducible intro hz; (try exact absurd hz (Nat.succ_ne_zero _)))))
      all_goals exact ⟨by rw [w64 (n := t + 1) (by omega)]⟩
/-- A number below n. -/
def pickA (t n : Int) : Int := if n ≤ 1 then t else if 200 < n then t + 1 + 1 else t + 1
def pickV (L : List Int) (t n : Int) : Int := if n ≤ 1 then 0 else if 200 < n then (nxI L t * 256 + nxI L (t + 1)).tmod n else (nxI L t).tmod n
theorem pickV_b {L : List Int} (h : ∀ a ∈ L, 0 ≤ a ∧ a ≤ (255 : Int)) (t n : Int) : 0 ≤ pickV L t n ∧ (1 ≤ n → pickV L t n < n) := by
  have h1 := nxI_b h t
  have h2 := nxI_b h (t + 1)
  unfold pickV
  split
  · exact ⟨Int.le_refl _, fun h => by omega⟩
  · split
    · exact ⟨Int.tmod_nonneg _ (by omega), fun _ => Int.tmod_lt_of_pos _ (by omega)⟩
    · exact ⟨Int.tmod_nonneg _ (by omega), fun _ => Int.tmod_lt_of_pos _ (by omega)⟩
/-- The source's box, behind draws. -/
def s_pick : Spec := fun args S => match args, S with
  | [.ptr 0 0 0, .int .i64 n], [.box [cv, .int .i64 t, .int .u64 sd] true false, rb] => ⟨(srcP 1 cv rb t sd ∧ t ≤ 999999999990) ∧ n ≤ 1000000000, .int .i64 (pickV (codL cv rb) t n), [.box [cv, .int .i64 (pickA t n), .int .u64 (sdI (codL cv rb) (pickA t n))] true false, rb]⟩
  | _, _ => noSpec
theorem ok_pick : SpecOk Try.prog 56 s_pick := by
  intro args S h; unfold s_pick at h ⊢; (split at h <;> first | exact False.elim h | skip)
  dsimp only at h ⊢
  rename_i n cv t sd rb
  obtain ⟨⟨hs, ht2⟩, hn⟩ := h
  obtain ⟨hc, ht, rfl⟩ := hs
  have hb1 := nxI_b (cod_b hc) t
  have hb2 := nxI_b (cod_b hc) (t + 1)
  have hp : ∀ u, 0 ≤ u → u ≤ 1000000000000 → srcP 1 cv rb u (sdI (codL cv rb) u) := fun u h1 h2 => ⟨hc, ⟨h1, h2⟩, rfl⟩
  by_cases h1 : n ≤ 1
  · have ea : pickA t n = t := by unfold pickA; rw [if_pos h1]
    have ev : pickV (codL cv rb) t n = 0 := by unfold pickV; rw [if_pos h1]
    rw [ea, ev]
    rcases codP_c hc with ⟨c, m, l, rfl, rfl, e, _⟩ | ⟨s, m, x, l, wr, rfl, rfl, e, _⟩
    · refine funW tabOk (E := []) trivial [] (k := 2) (fn := Try.f56) rfl rfl rfl rfl rfl rfl ?_
      (repeat' ((try (conv => whnf)); first | (with_reducible first | refine And.intro ?_ ?_ | refine WX.of ?_) | exact zc | ((with_reducible refine VC.mk ?_); exact zw) | (with_reducible first | refine splitT ?_ | refine splitF ?_) | ((with_reducible refine splitM.mk (fun hsm => ?_) (fun hsm => ?_)) <;> (try exact zx)) | ((with_reducible refine splitB.mk (fun h => ?_) (fun h => ?_)) <;> (try simp only [zs, ne_eq] at h) <;> (try simp (disch := omega) only [w64] at h) <;> (try exact zx)) | (with_reducible intro hz; (try exact absurd hz (Nat.succ_ne_zero _)))))
    · refine funW tabOk (E := []) trivial [] (k := 2) (fn := Try.f56) rfl rfl rfl rfl rfl rfl ?_
      (repeat' ((try (conv => whnf)); first | (with_reducible first | refine And.intro ?_ ?_ | refine WX.of ?_) | exact zc | ((with_reducible refine VC.mk ?_); exact zw) | (with_reducible first | refine splitT ?_ | refine splitF ?_) | ((with_reducible refine splitM.mk (fun hsm => ?_) (fun hsm => ?_)) <;> (try exact zx)) | ((with_reducible refine splitB.mk (fun h => ?_) (fun h => ?_)) <;> (try simp only [zs, ne_eq] at h) <;> (try simp (disch := omega) only [w64] at h) <;> (try exact zx)) | (with_reducible intro hz; (try exact absurd hz (Nat.succ_ne_zero _)))))
  · by_cases h2 : 200 < n
    · have ea : pickA t n = t + 1 + 1 := by unfold pickA; rw [if_neg h1, if_pos h2]
      have ev : pickV (codL cv rb) t n = (nxI (codL cv rb) t * 256 + nxI (codL cv rb) (t + 1)).tmod n := by unfold pickV; rw [if_neg h1, if_pos h2]
      rw [ea, ev]
      rcases codP_c hc with ⟨c, m, l, rfl, rfl, e, _⟩ | ⟨s, m, x, l, wr, rfl, rfl, e, _⟩
      · refine funW tabOk (E := [(115, s_next)]) ⟨ok_next, trivial⟩ [] (k := 2) (fn := Try.f56) rfl rfl rfl rfl rfl rfl ?_
        (repeat' ((try (conv => whnf)); first | (with_reducible first | refine And.intro ?_ ?_ | refine WX.of ?_) | exact zc | ((with_reducible refine VC.mk ?_); exact zw) | ((with_reducible refine VC.mk ?_); exact hp _ (by omega) (by omega)) | (with_reducible first | refine splitT ?_ | refine splitF ?_) | ((with_reducible refine splitM.mk (fun hsm => ?_) (fun hsm => ?_)) <;> (try exact zx)) | ((with_reducible refine splitB.mk (fun h => ?_) (fun h => ?_)) <;> (try simp only [zs, ne_eq] at h) <;> (try simp (disch := omega) only [w64] at h) <;> (try exact zx)) | (with_reducible intro hz; (try exact absurd hz (Nat.succ_ne_zero _)))))
        exact ⟨by rw [w64 (n := _ * 256) (by omega), w64 (by omega)]⟩
      · refine funW tabOk (E := [(115, s_next)]) ⟨ok_next, trivial⟩ [] (k := 2) (fn := Try.f56) rfl rfl rfl rfl rfl rfl ?_
        (repeat' ((try (conv => whnf)); first | (with_reducible first | refine And.intro ?_ ?_ | refine WX.of ?_) | exact zc | ((with_reducible refine VC.mk ?_); exact zw) | ((with_reducible refine VC.mk ?_); exact hp _ (by omega) (by omega)) | (with_reducible first | refine splitT ?_ | refine splitF ?_) | ((with_reducible refine splitM.mk (fun hsm => ?_) (fun hsm => ?_)) <;> (try exact zx)) | ((with_reducible refine splitB.mk (fun h => ?_) (fun h => ?_)) <;> (try simp only [zs, ne_eq] at h) <;> (try simp (disch := omega) only [w64] at h) <;> (try exact zx)) | (with_reducible intro hz; (try exact absurd hz (Nat.succ_ne_zero _)))))
        exact ⟨by rw [w64 (n := _ * 256) (by omega), w64 (by omega)]⟩
    · have ea : pickA t n = t + 1 := by unfold pickA; rw [if_neg h1, if_neg h2]
      have ev : pickV (codL cv rb) t n = (nxI (codL cv rb) t).tmod n := by unfold pickV; rw [if_neg h1, if_neg h2]
      rw [ea, ev]
      rcases codP_c hc with ⟨c, m, l, rfl, rfl, e, _⟩ | ⟨s, m, x, l, wr, rfl, rfl, e, _⟩
      · refine funW tabOk (E := [(115, s_next)]) ⟨ok_next, trivial⟩ [] (k := 2) (fn := Try.f56) rfl rfl rfl rfl rfl rfl ?_
        (repeat' ((try (conv => whnf)); first | (with_reducible first | refine And.intro ?_ ?_ | refine WX.of ?_) | exact zc | ((with_reducible refine VC.mk ?_); exact zw) | ((with_reducible refine VC.mk ?_); exact hp _ (by omega) (by omega)) | (with_reducible first | refine splitT ?_ | refine splitF ?_) | ((with_reducible refine splitM.mk (fun hsm => ?_) (fun hsm => ?_)) <;> (try exact zx)) | ((with_reducible refine splitB.mk (fun h => ?_) (fun h => ?_)) <;> (try simp only [zs, ne_eq] at h) <;> (try simp (disch := omega) only [w64] at h) <;> (try exact zx)) | (with_reducible intro hz; (try exact absurd hz (Nat.succ_ne_zero _)))))
      · refine funW tabOk (E := [(115, s_next)]) ⟨ok_next, trivial⟩ [] (k := 2) (fn := Try.f56) rfl rfl rfl rfl rfl rfl ?_
        (repeat' ((try (conv => whnf)); first | (with_reducible first | refine And.intro ?_ ?_ | refine WX.of ?_) | exact zc | ((with_reducible refine VC.mk ?_); exact zw) | ((with_reducible refine VC.mk ?_); exact hp _ (by omega) (by omega)) | (with_reducible first | refine splitT ?_ | refine splitF ?_) | ((with_reducible refine splitM.mk (fun hsm => ?_) (fun hsm => ?_)) <;> (try exact zx)) | ((with_reducible refine splitB.mk (fun h => ?_) (fun h => ?_)) <;> (try simp only [zs, ne_eq] at h) <;> (try simp (disch := omega) only [w64] at h) <;> (try exact zx)) | (with_reducible intro hz; (try exact absurd hz (Nat.succ_ne_zero _)))))
def amV (L : List Int) (t : Int) (l : List Int) : Int := (l[(pickV L t l.length).toNat]?).getD 0
def txV (L : List Int) (t : Int) (l : List (List UInt8)) : List UInt8 := (l[(pickV L t l.length).toNat]?).getD []
theorem pick_at {α : Type} {L : List Int} (h : ∀ a ∈ L, 0 ≤ a ∧ a ≤ (255 : Int)) (t : Int) {l : List α} (hl : 1 ≤ l.length) : ∃ a, l[(pickV L t l.length).toNat]? = some a := by
  have := pickV_b h t l.length
  exact get_some (by have := this.2 (by omega); omega)
def s_among : Spec := fun args S => match args, S with
  | [.ptr 0 0 0, .sl 1 0 n x], [.box [cv, .int .i64 t, .int .u64 sd] true false, .arr (.int .i64) l 1 wr, rb] => ⟨(srcP 2 cv rb t sd ∧ t ≤ 999999999990) ∧ n = l.length ∧ 1 ≤ n ∧ n ≤ 1000000000, .int .i64 (amV (codL cv rb) t l), [.box [cv, .int .i64 (pickA t l.length), .int .u64 (sdI (codL cv rb) (pickA t l.length))] true false, .arr (.int .i64) l 1 wr, rb]⟩
  | _, _ => noSpec
def s_text : Spec := fun args S => match args, S with
  | [.ptr 0 0 0, .sl 1 0 n x], [.box [cv, .int .i64 t, .int .u64 sd] true false, .arr .str l 1 wr, rb] => ⟨(srcP 2 cv rb t sd ∧ t ≤ 999999999990) ∧ n = l.length ∧ 1 ≤ n ∧ n ≤ 1000000000, .str (txV (codL cv rb) t l), [.box [cv, .int .i64 (pickA t l.length), .int .u64 (sdI (codL cv rb) (pickA t l.length))] true false, .arr .str l 1 wr, rb]⟩
  | _, _ => noSpec
def s_oneS : Spec := fun args S => match args, S with
  | [.ptr 0 0 0, .int .i64 n], [.box [cv, .int .i64 t, .int .u64 sd] true false, rb] => ⟨(srcP 1 cv rb t sd ∧ t ≤ 999999999990) ∧ n ≤ 1000000000, .bool (decide (pickV (codL cv rb) t n = 0)), [.box [cv, .int .i64 (pickA t n), .int .u64 (sdI (codL cv rb) (pickA t n))] true false, rb]⟩
  | _, _ => noSpec
theorem ok_among : SpecOk Try.prog 58 s_among := by
  intro args S h; unfold s_among at h ⊢; (split at h <;> first | exact False.elim h | skip)
  dsimp only at h ⊢
  rename_i n x cv t sd l wr rb
  obtain ⟨⟨⟨hc, ht, rfl⟩, ht2⟩, rfl, h1, h2⟩ := h
  have hpb := pickV_b (cod_b hc) t l.length
  obtain ⟨a, ha⟩ := pick_at (cod_b hc) t h1
  have hav : amV (codL cv rb) t l = a := by unfold amV; rw [ha]; rfl
  rw [hav]
  have hp1 := hpb.2 (by omega)
  rcases codP_c hc with ⟨c, m, q, rfl, rfl, e, h3⟩ | ⟨s, m, y, q, wq, rfl, rfl, e, h3⟩
  · refine funW tabOk (E := [(56, s_pick)]) ⟨ok_pick, trivial⟩ [] (k := 3) (fn := Try.f58) rfl rfl rfl rfl rfl rfl ?_
    (repeat' ((try (conv => whnf)); first | (with_reducible first | refine And.intro ?_ ?_ | refine WX.of ?_) | exact zc | ((with_reducible refine VC.mk ?_); exact zw) | ((with_reducible refine VC.mk ?_); exact ⟨⟨⟨⟨rfl, h3⟩, ht, rfl⟩, ht2⟩, by omega⟩) | ((with_reducible refine VC.mk ?_); exact ⟨hpb.1, hp1⟩) | refine atL_q ha (by first  |  rfl  |  exact Nat.zero_add _) ?_ | (with_reducible first | refine splitT ?_ | refine splitF ?_) | ((with_reducible refine splitM.mk (fun hsm => ?_) (fun hsm => ?_)) <;> (try exact zx)) | ((with_reducible refine splitB.mk (fun h => ?_) (fun h => ?_)) <;> (try simp only [zs, ne_eq] at h) <;> (try simp (disch := omega) only [w64] at h) <;> (try exact zx)) | (with_reducible intro hz; (try exact absurd hz (Nat.succ_ne_zero _)))))
  · refine funW tabOk (E := [(56, s_pick)]) ⟨ok_pick, trivial⟩ [] (k := 3) (fn := Try.f58) rfl rfl rfl rfl rfl rfl ?_
    (repeat' ((try (conv => whnf)); first | (with_reducible first | refine And.intro ?_ ?_ | refine WX.of ?_) | exact zc | ((with_reducible refine VC.mk ?_); exact zw) | ((with_reducible refine VC.mk ?_); exact ⟨⟨⟨⟨rfl, h3⟩, ht, rfl⟩, ht2⟩, by omega⟩) | ((with_reducible refine VC.mk ?_); exact ⟨hpb.1, hp1⟩) | refine atL_q ha (by first  |  rfl  |  exact Nat.zero_add _) ?_ | (with_reducible first | refine splitT ?_ | refine splitF ?_) | ((with_reducible refine splitM.mk (fun hsm => ?_) (fun hsm => ?_)) <;> (try exact zx)) | ((with_reducible refine splitB.mk (fun h => ?_) (fun h => ?_)) <;> (try simp only [zs, ne_eq] at h) <;> (try simp (disch := omega) only [w64] at h) <;> (try exact zx)) | (with_reducible intro hz; (try exact absurd hz (Nat.succ_ne_zero _)))))
theorem ok_textS : SpecOk Try.prog 118 s_text := by
  intro args S h; unfold s_text at h ⊢; (split at h <;> first | exact False.elim h | skip)
  dsimp only at h ⊢
  rename_i n x cv t sd l wr rb
  obtain ⟨⟨⟨hc, ht, rfl⟩, ht2⟩, rfl, h1, h2⟩ := h
  have hpb := pickV_b (cod_b hc) t l.length
  obtain ⟨a, ha⟩ := pick_at (cod_b hc) t h1
  have hav : txV (codL cv rb) t l = a := by unfold txV; rw [ha]; rfl
  rw [hav]
  have hp1 := hpb.2 (by omega)
  rcases codP_c hc with ⟨c, m, q, rfl, rfl, e, h3⟩ | ⟨s, m, y, q, wq, rfl, rfl, e, h3⟩
  · refine funW tabOk (E := [(56, s_pick)]) ⟨ok_pick, trivial⟩ [] (k := 3) (fn := Try.f118) rfl rfl rfl rfl rfl rfl ?_
    (repeat' ((try (conv => whnf)); first | (with_reducible first | refine And.intro ?_ ?_ | refine WX.of ?_) | exact zc | ((with_reducible refine VC.mk ?_); exact zw) | ((with_reducible refine VC.mk ?_); exact ⟨⟨⟨⟨rfl, h3⟩, ht, rfl⟩, ht2⟩, by omega⟩) | ((with_reducible refine VC.mk ?_); exact ⟨hpb.1, hp1⟩) | refine atL_q ha (by first  |  rfl  |  exact Nat.zero_add _) ?_ | (with_reducible first | refine splitT ?_ | refine splitF ?_) | ((with_reducible refine splitM.mk (fun hsm => ?_) (fun hsm => ?_)) <;> (try exact zx)) | ((with_reducible refine splitB.mk (fun h => ?_) (fun h => ?_)) <;> (try simp only [zs, ne_eq] at h) <;> (try simp (disch := omega) only [w64] at h) <;> (try exact zx)) | (with_reducible intro hz; (try exact absurd hz (Nat.succ_ne_zero _)))))
  · refine funW tabOk (E := [(56, s_pick)]) ⟨ok_pick, trivial⟩ [] (k := 3) (fn := Try.f118) rfl rfl rfl rfl rfl rfl ?_
    (repeat' ((try (conv => whnf)); first | (with_reducible first | refine And.intro ?_ ?_ | refine WX.of ?_) | exact zc | ((with_reducible refine VC.mk ?_); exact zw) | ((with_reducible refine VC.mk ?_); exact ⟨⟨⟨⟨rfl, h3⟩, ht, rfl⟩, ht2⟩, by omega⟩) | ((with_reducible refine VC.mk ?_); exact ⟨hpb.1, hp1⟩) | refine atL_q ha (by first  |  rfl  |  exact Nat.zero_add _) ?_ | (with_reducible first | refine splitT ?_ | refine splitF ?_) | ((with_reducible refine splitM.mk (fun hsm => ?_) (fun hsm => ?_)) <;> (try exact zx)) | ((with_reducible refine splitB.mk (fun h => ?_) (fun h => ?_)) <;> (try simp only [zs, ne_eq] at h) <;> (try simp (disch := omega) only [w64] at h) <;> (try exact zx)) | (with_reducible intro hz; (try exact absurd hz (Nat.succ_ne_zero _)))))
theorem ok_oneS : SpecOk Try.prog 119 s_oneS := by
  intro args S h; unfold s_oneS at h ⊢; (split at h <;> first | exact False.elim h | skip)
  dsimp only at h ⊢
  rename_i n cv t sd rb
  obtain ⟨⟨⟨hc, ht, rfl⟩, ht2⟩, h1⟩ := h
  rcases codP_c hc with ⟨c, m, q, rfl, rfl, e, h3⟩ | ⟨s, m, y, q, wq, rfl, rfl, e, h3⟩
  · refine funW tabOk (E := [(56, s_pick)]) ⟨ok_pick, trivial⟩ [] (k := 2) (fn := Try.f119) rfl rfl rfl rfl rfl rfl ?_
    (repeat' ((try (conv => whnf)); first | (with_reducible first | refine And.intro ?_ ?_ | refine WX.of ?_) | exact zc | ((with_reducible refine VC.mk ?_); exact zw) | ((with_reducible refine VC.mk ?_); exact ⟨⟨⟨⟨rfl, h3⟩, ht, rfl⟩, ht2⟩, by omega⟩) | (with_reducible first | refine splitT ?_ | refine splitF ?_) | ((with_reducible refine splitM.mk (fun hsm => ?_) (fun hsm => ?_)) <;> (try exact zx)) | ((with_reducible refine splitB.mk (fun h => ?_) (fun h => ?_)) <;> (try simp only [zs, ne_eq] at h) <;> (try simp (disch := omega) only [w64] at h) <;> (try exact zx)) | (with_reducible intro hz; (try exact absurd hz (Nat.succ_ne_zero _)))))
  · refine funW tabOk (E := [(56, s_pick)]) ⟨ok_pick, trivial⟩ [] (k := 2) (fn := Try.f119) rfl rfl rfl rfl rfl rfl ?_
    (repeat' ((try (conv => whnf)); first | (with_reducible first | refine And.intro ?_ ?_ | refine WX.of ?_) | exact zc | ((with_reducible refine VC.mk ?_); exact zw) | ((with_reducible refine VC.mk ?_); exact ⟨⟨⟨⟨rfl, h3⟩, ht, rfl⟩, ht2⟩, by omega⟩) | (with_reducible first | refine splitT ?_ | refine splitF ?_) | ((with_reducible refine splitM.mk (fun hsm => ?_) (fun hsm => ?_)) <;> (try exact zx)) | ((with_reducible refine splitB.mk (fun h => ?_) (fun h => ?_)) <;> (try simp only [zs, ne_eq] at h) <;> (try simp (disch := omega) only [w64] at h) <;> (try exact zx)) | (with_reducible intro hz; (try exact absurd hz (Nat.succ_ne_zero _)))))
def s_from : Spec := fun args S => match args, S with
  | [cv], [rb] => ⟨codP 0 cv rb, .ptr 1 0 0, [rb, .box [cv, .int .i64 0, .int .u64 0] true false]⟩
  | _, _ => noSpec
theorem ok_from : SpecOk Try.prog 55 s_from := by
  intro args S h; unfold s_from at h ⊢; (split at h <;> first | exact False.elim h | skip)
  dsimp only at h ⊢
  rename_i cv rb
  rcases codP_c h with ⟨c, m, q, rfl, rfl, e, h3⟩ | ⟨s, m, y, q, wq, rfl, rfl, e, h3⟩
  · refine funW tabOk (E := []) trivial [] (k := 1) (fn := Try.f55) rfl rfl rfl rfl rfl rfl ?_
    (repeat' ((try (conv => whnf)); first | (with_reducible first | refine And.intro ?_ ?_ | refine WX.of ?_) | exact zc | ((with_reducible refine VC.mk ?_); exact zw) | (with_reducible first | refine splitT ?_ | refine splitF ?_) | ((with_reducible refine splitM.mk (fun hsm => ?_) (fun hsm => ?_)) <;> (try exact zx)) | ((with_reducible refine splitB.mk (fun h => ?_) (fun h => ?_)) <;> (try simp only [zs, ne_eq] at h) <;> (try simp (disch := omega) only [w64] at h) <;> (try exact zx)) | (with_reducible intro hz; (try exact absurd hz (Nat.succ_ne_zero _)))))
  · refine funW tabOk (E := []) trivial [] (k := 1) (fn := Try.f55) rfl rfl rfl rfl rfl rfl ?_
    (repeat' ((try (conv => whnf)); first | (with_reducible first | refine And.intro ?_ ?_ | refine WX.of ?_) | exact zc | ((with_reducible refine VC.mk ?_); exact zw) | (with_reducible first | refine splitT ?_ | refine splitF ?_) | ((with_reducible refine splitM.mk (fun hsm => ?_) (fun hsm => ?_)) <;> (try exact zx)) | ((with_reducible refine splitB.mk (fun h => ?_) (fun h => ?_)) <;> (try simp only [zs, ne_eq] at h) <;> (try simp (disch := omega) only [w64] at h) <;> (try exact zx)) | (with_reducible intro hz; (try exact absurd hz (Nat.succ_ne_zero _)))))
end Go.Proofs.Ytghafpklomnhlaa.Eng
