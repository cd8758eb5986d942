/- Lemmas for the proof, no conditions of their own. -/
import Derived.Test.YtnmpgofhdjcpaaaQA2
import Derived.Test.YtnmpgofhdjcpaaaProg
import Derived.KernelRfl
set_option linter.unusedVariables false
set_option linter.unusedSimpArgs false
set_option maxRecDepth 100000
namespace Go.Proofs.Ytnmpgofhdjcpaaa.Eng
open Go Go.RowKit
def t_1 : TyD := { und := TypeDesc.func #[] #[] false, size := 1, bytes := 8, zero := [Value.nilFunc], fl := false }
theorem i_1 : TabE Try.prog (1, t_1, false) := ⟨by kernel_rfl, fun h => by simp at h⟩
def t_2 : TyD := { und := TypeDesc.int IntKind.i64, size := 1, bytes := 8, zero := [Value.int IntKind.i64 0], fl := true }
theorem i_2 : TabE Try.prog (2, t_2, false) := ⟨by kernel_rfl, fun h => by simp at h⟩
def t_3 : TyD := { und := TypeDesc.int IntKind.i64, size := 1, bytes := 8, zero := [Value.int IntKind.i64 0], fl := true }
theorem i_3 : TabE Try.prog (3, t_3, false) := ⟨by kernel_rfl, fun h => by simp at h⟩
def t_4 : TyD := { und := TypeDesc.bool, size := 1, bytes := 1, zero := [Value.bool false], fl := true }
theorem i_4 : TabE Try.prog (4, t_4, false) := ⟨by kernel_rfl, fun h => by simp at h⟩
def t_5 : TyD := { und := TypeDesc.int IntKind.u8, size := 1, bytes := 1, zero := [Value.int IntKind.u8 0], fl := true }
theorem i_5 : TabE Try.prog (5, t_5, false) := ⟨by kernel_rfl, fun h => by simp at h⟩
def t_6 : TyD := { und := TypeDesc.int IntKind.u8, size := 1, bytes := 1, zero := [Value.int IntKind.u8 0], fl := true }
theorem i_6 : TabE Try.prog (6, t_6, false) := ⟨by kernel_rfl, fun h => by simp at h⟩
def t_7 : TyD := { und := TypeDesc.struct #[{ name := "x", type := 2, offset := 0, embedded := false, tag := "", pkgPath := "runtime", byteOffset := 0 }, { name := "y", type := 3, offset := 1, embedded := false, tag := "", pkgPath := "runtime", byteOffset := 8 }, { name := "signed", type := 4, offset := 2, embedded := false, tag := "", pkgPath := "runtime", byteOffset := 16 }, { name := "code", type := 6, offset := 3, embedded := false, tag := "", pkgPath := "runtime", byteOffset := 17 }], size := 4, bytes := 24, zero := [Value.int IntKind.i64 0, Value.int IntKind.i64 0, Value.bool false, Value.int IntKind.u8 0], fl := true }
theorem i_7 : TabE Try.prog (7, t_7, true) := ⟨by kernel_rfl, fun _ => by kernel_rfl⟩
def t_8 : TyD := { und := TypeDesc.struct #[{ name := "x", type := 2, offset := 0, embedded := false, tag := "", pkgPath := "runtime", byteOffset := 0 }, { name := "y", type := 3, offset := 1, embedded := false, tag := "", pkgPath := "runtime", byteOffset := 8 }, { name := "signed", type := 4, offset := 2, embedded := false, tag := "", pkgPath := "runtime", byteOffset := 16 }, { name := "code", type := 6, offset := 3, embedded := false, tag := "", pkgPath := "runtime", byteOffset := 17 }], size := 4, bytes := 24, zero := [Value.int IntKind.i64 0, Value.int IntKind.i64 0, Value.bool false, Value.int IntKind.u8 0], fl := true }
theorem i_8 : TabE Try.prog (8, t_8, true) := ⟨by kernel_rfl, fun _ => by kernel_rfl⟩
def t_9 : TyD := { und := TypeDesc.string, size := 1, bytes := 16, zero := [Value.string ⟨#[]⟩], fl := true }
theorem i_9 : TabE Try.prog (9, t_9, false) := ⟨by kernel_rfl, fun h => by simp at h⟩
def t_10 : TyD := { und := TypeDesc.string, size := 1, bytes := 16, zero := [Value.string ⟨#[]⟩], fl := true }
theorem i_10 : TabE Try.prog (10, t_10, false) := ⟨by kernel_rfl, fun h => by simp at h⟩
def t_11 : TyD := { und := TypeDesc.string, size := 1, bytes := 16, zero := [Value.string ⟨#[]⟩], fl := true }
theorem i_11 : TabE Try.prog (11, t_11, false) := ⟨by kernel_rfl, fun h => by simp at h⟩
def t_12 : TyD := { und := TypeDesc.int IntKind.u64, size := 1, bytes := 8, zero := [Value.int IntKind.u64 0], fl := true }
theorem i_12 : TabE Try.prog (12, t_12, false) := ⟨by kernel_rfl, fun h => by simp at h⟩
def t_13 : TyD := { und := TypeDesc.struct #[{ name := "msg", type := 9, offset := 0, embedded := false, tag := "", pkgPath := "runtime", byteOffset := 0 }, { name := "addr", type := 12, offset := 1, embedded := false, tag := "", pkgPath := "runtime", byteOffset := 16 }], size := 2, bytes := 24, zero := [Value.string ⟨#[]⟩, Value.int IntKind.u64 0], fl := true }
theorem i_13 : TabE Try.prog (13, t_13, false) := ⟨by kernel_rfl, fun h => by simp at h⟩
def t_14 : TyD := { und := TypeDesc.struct #[{ name := "msg", type := 9, offset := 0, embedded := false, tag := "", pkgPath := "runtime", byteOffset := 0 }, { name := "addr", type := 12, offset := 1, embedded := false, tag := "", pkgPath := "runtime", byteOffset := 16 }], size := 2, bytes := 24, zero := [Value.string ⟨#[]⟩, Value.int IntKind.u64 0], fl := true }
theorem i_14 : TabE Try.prog (14, t_14, false) := ⟨by kernel_rfl, fun h => by simp at h⟩
def t_15 : TyD := { und := TypeDesc.pointer 148, size := 1, bytes := 8, zero := [Value.pointer none], fl := false }
theorem i_15 : TabE Try.prog (15, t_15, false) := ⟨by kernel_rfl, fun h => by simp at h⟩
def t_16 : TyD := { und := TypeDesc.pointer 151, size := 1, bytes := 8, zero := [Value.pointer none], fl := false }
theorem i_16 : TabE Try.prog (16, t_16, false) := ⟨by kernel_rfl, fun h => by simp at h⟩
def t_17 : TyD := { und := TypeDesc.pointer 161, size := 1, bytes := 8, zero := [Value.pointer none], fl := false }
theorem i_17 : TabE Try.prog (17, t_17, false) := ⟨by kernel_rfl, fun h => by simp at h⟩
def t_18 : TyD := { und := TypeDesc.struct #[{ name := "typ", type := 17, offset := 0, embedded := false, tag := "", pkgPath := "internal/runtime/maps", byteOffset := 0 }], size := 1, bytes := 8, zero := [Value.pointer none], fl := false }
theorem i_18 : TabE Try.prog (18, t_18, false) := ⟨by kernel_rfl, fun h => by simp at h⟩
def t_19 : TyD := { und := TypeDesc.struct #[{ name := "typ", type := 17, offset := 0, embedded := false, tag := "", pkgPath := "internal/runtime/maps", byteOffset := 0 }], size := 1, bytes := 8, zero := [Value.pointer none], fl := false }
theorem i_19 : TabE Try.prog (19, t_19, false) := ⟨by kernel_rfl, fun h => by simp at h⟩
def t_21 : TyD := { und := TypeDesc.int IntKind.i32, size := 1, bytes := 4, zero := [Value.int IntKind.i32 0], fl := true }
theorem i_21 : TabE Try.prog (21, t_21, false) := ⟨by kernel_rfl, fun h => by simp at h⟩
def t_22 : TyD := { und := TypeDesc.slice 5, size := 1, bytes := 24, zero := [Value.slice none 0 0], fl := false }
theorem i_22 : TabE Try.prog (22, t_22, false) := ⟨by kernel_rfl, fun h => by simp at h⟩
def t_23 : TyD := { und := TypeDesc.func #[22, 22] #[4] false, size := 1, bytes := 8, zero := [Value.nilFunc], fl := false }
theorem i_23 : TabE Try.prog (23, t_23, false) := ⟨by kernel_rfl, fun h => by simp at h⟩
def t_24 : TyD := { und := TypeDesc.slice 32, size := 1, bytes := 24, zero := [Value.slice none 0 0], fl := false }
theorem i_24 : TabE Try.prog (24, t_24, false) := ⟨by kernel_rfl, fun h => by simp at h⟩
def t_25 : TyD := { und := TypeDesc.func #[22] #[24] false, size := 1, bytes := 8, zero := [Value.nilFunc], fl := false }
theorem i_25 : TabE Try.prog (25, t_25, false) := ⟨by kernel_rfl, fun h => by simp at h⟩
def t_26 : TyD := { und := TypeDesc.func #[22, 2, 2] #[2] false, size := 1, bytes := 8, zero := [Value.nilFunc], fl := false }
theorem i_26 : TabE Try.prog (26, t_26, false) := ⟨by kernel_rfl, fun h => by simp at h⟩
def t_27 : TyD := { und := TypeDesc.struct #[{ name := "P", type := 2, offset := 0, embedded := false, tag := "", pkgPath := "", byteOffset := 0 }, { name := "Q", type := 2, offset := 1, embedded := false, tag := "", pkgPath := "", byteOffset := 8 }], size := 2, bytes := 16, zero := [Value.int IntKind.i64 0, Value.int IntKind.i64 0], fl := true }
theorem i_27 : TabE Try.prog (27, t_27, true) := ⟨by kernel_rfl, fun _ => by kernel_rfl⟩
def t_28 : TyD := { und := TypeDesc.struct #[{ name := "P", type := 2, offset := 0, embedded := false, tag := "", pkgPath := "", byteOffset := 0 }, { name := "Q", type := 2, offset := 1, embedded := false, tag := "", pkgPath := "", byteOffset := 8 }], size := 2, bytes := 16, zero := [Value.int IntKind.i64 0, Value.int IntKind.i64 0], fl := true }
theorem i_28 : TabE Try.prog (28, t_28, true) := ⟨by kernel_rfl, fun _ => by kernel_rfl⟩
def t_29 : TyD := { und := TypeDesc.struct #[{ name := "Low", type := 28, offset := 0, embedded := false, tag := "", pkgPath := "", byteOffset := 0 }, { name := "High", type := 28, offset := 2, embedded := false, tag := "", pkgPath := "", byteOffset := 16 }], size := 4, bytes := 32, zero := [Value.int IntKind.i64 0, Value.int IntKind.i64 0, Value.int IntKind.i64 0, Value.int IntKind.i64 0], fl := true }
theorem i_29 : TabE Try.prog (29, t_29, true) := ⟨by kernel_rfl, fun _ => by kernel_rfl⟩
def t_30 : TyD := { und := TypeDesc.struct #[{ name := "Low", type := 28, offset := 0, embedded := false, tag := "", pkgPath := "", byteOffset := 0 }, { name := "High", type := 28, offset := 2, embedded := false, tag := "", pkgPath := "", byteOffset := 16 }], size := 4, bytes := 32, zero := [Value.int IntKind.i64 0, Value.int IntKind.i64 0, Value.int IntKind.i64 0, Value.int IntKind.i64 0], fl := true }
theorem i_30 : TabE Try.prog (30, t_30, true) := ⟨by kernel_rfl, fun _ => by kernel_rfl⟩
def t_31 : TyD := { und := TypeDesc.struct #[{ name := "Name", type := 9, offset := 0, embedded := false, tag := "", pkgPath := "", byteOffset := 0 }, { name := "From", type := 2, offset := 1, embedded := false, tag := "", pkgPath := "", byteOffset := 16 }, { name := "Value", type := 30, offset := 2, embedded := false, tag := "", pkgPath := "", byteOffset := 24 }, { name := "Drift", type := 28, offset := 6, embedded := false, tag := "", pkgPath := "", byteOffset := 56 }, { name := "Made", type := 2, offset := 8, embedded := false, tag := "", pkgPath := "", byteOffset := 72 }, { name := "Good", type := 2, offset := 9, embedded := false, tag := "", pkgPath := "", byteOffset := 80 }], size := 10, bytes := 88, zero := [Value.string ⟨#[]⟩, Value.int IntKind.i64 0, Value.int IntKind.i64 0, Value.int IntKind.i64 0, Value.int IntKind.i64 0, Value.int IntKind.i64 0, Value.int IntKind.i64 0, Value.int IntKind.i64 0, Value.int IntKind.i64 0, Value.int IntKind.i64 0], fl := true }
theorem i_31 : TabE Try.prog (31, t_31, true) := ⟨by kernel_rfl, fun _ => by kernel_rfl⟩
def t_32 : TyD := { und := TypeDesc.struct #[{ name := "Name", type := 9, offset := 0, embedded := false, tag := "", pkgPath := "", byteOffset := 0 }, { name := "From", type := 2, offset := 1, embedded := false, tag := "", pkgPath := "", byteOffset := 16 }, { name := "Value", type := 30, offset := 2, embedded := false, tag := "", pkgPath := "", byteOffset := 24 }, { name := "Drift", type := 28, offset := 6, embedded := false, tag := "", pkgPath := "", byteOffset := 56 }, { name := "Made", type := 2, offset := 8, embedded := false, tag := "", pkgPath := "", byteOffset := 72 }, { name := "Good", type := 2, offset := 9, embedded := false, tag := "", pkgPath := "", byteOffset := 80 }], size := 10, bytes := 88, zero := [Value.string ⟨#[]⟩, Value.int IntKind.i64 0, Value.int IntKind.i64 0, Value.int IntKind.i64 0, Value.int IntKind.i64 0, Value.int IntKind.i64 0, Value.int IntKind.i64 0, Value.int IntKind.i64 0, Value.int IntKind.i64 0, Value.int IntKind.i64 0], fl := true }
theorem i_32 : TabE Try.prog (32, t_32, true) := ⟨by kernel_rfl, fun _ => by kernel_rfl⟩
def t_34 : TyD := { und := TypeDesc.func #[24, 2, 2, 2] #[30, 2] false, size := 1, bytes := 8, zero := [Value.nilFunc], fl := false }
theorem i_34 : TabE Try.prog (34, t_34, false) := ⟨by kernel_rfl, fun h => by simp at h⟩
def t_35 : TyD := { und := TypeDesc.func #[24, 2, 2] #[30, 2] false, size := 1, bytes := 8, zero := [Value.nilFunc], fl := false }
theorem i_35 : TabE Try.prog (35, t_35, false) := ⟨by kernel_rfl, fun h => by simp at h⟩
def t_36 : TyD := { und := TypeDesc.func #[30, 30] #[30, 2] false, size := 1, bytes := 8, zero := [Value.nilFunc], fl := false }
theorem i_36 : TabE Try.prog (36, t_36, false) := ⟨by kernel_rfl, fun h => by simp at h⟩
def t_38 : TyD := { und := TypeDesc.func #[30, 28] #[4, 2] false, size := 1, bytes := 8, zero := [Value.nilFunc], fl := false }
theorem i_38 : TabE Try.prog (38, t_38, false) := ⟨by kernel_rfl, fun h => by simp at h⟩
def t_39 : TyD := { und := TypeDesc.func #[24, 2, 2, 2] #[4, 2] false, size := 1, bytes := 8, zero := [Value.nilFunc], fl := false }
theorem i_39 : TabE Try.prog (39, t_39, false) := ⟨by kernel_rfl, fun h => by simp at h⟩
def t_40 : TyD := { und := TypeDesc.slice 2, size := 1, bytes := 24, zero := [Value.slice none 0 0], fl := false }
theorem i_40 : TabE Try.prog (40, t_40, false) := ⟨by kernel_rfl, fun h => by simp at h⟩
def t_42 : TyD := { und := TypeDesc.func #[24, 2] #[40, 2] false, size := 1, bytes := 8, zero := [Value.nilFunc], fl := false }
theorem i_42 : TabE Try.prog (42, t_42, false) := ⟨by kernel_rfl, fun h => by simp at h⟩
def t_43 : TyD := { und := TypeDesc.func #[24, 2, 2] #[40, 2] false, size := 1, bytes := 8, zero := [Value.nilFunc], fl := false }
theorem i_43 : TabE Try.prog (43, t_43, false) := ⟨by kernel_rfl, fun h => by simp at h⟩
def t_44 : TyD := { und := TypeDesc.func #[40, 40] #[4] false, size := 1, bytes := 8, zero := [Value.nilFunc], fl := false }
theorem i_44 : TabE Try.prog (44, t_44, false) := ⟨by kernel_rfl, fun h => by simp at h⟩
def t_45 : TyD := { und := TypeDesc.func #[24, 2, 2] #[4, 2] false, size := 1, bytes := 8, zero := [Value.nilFunc], fl := false }
theorem i_45 : TabE Try.prog (45, t_45, false) := ⟨by kernel_rfl, fun h => by simp at h⟩
def t_46 : TyD := { und := TypeDesc.func #[40, 2] #[4] false, size := 1, bytes := 8, zero := [Value.nilFunc], fl := false }
theorem i_46 : TabE Try.prog (46, t_46, false) := ⟨by kernel_rfl, fun h => by simp at h⟩
def t_48 : TyD := { und := TypeDesc.func #[24, 2] #[2, 2] false, size := 1, bytes := 8, zero := [Value.nilFunc], fl := false }
theorem i_48 : TabE Try.prog (48, t_48, false) := ⟨by kernel_rfl, fun h => by simp at h⟩
def t_49 : TyD := { und := TypeDesc.slice 95, size := 1, bytes := 24, zero := [Value.slice none 0 0], fl := false }
theorem i_49 : TabE Try.prog (49, t_49, false) := ⟨by kernel_rfl, fun h => by simp at h⟩
def t_50 : TyD := { und := TypeDesc.func #[49, 3] #[3] false, size := 1, bytes := 8, zero := [Value.nilFunc], fl := false }
theorem i_50 : TabE Try.prog (50, t_50, false) := ⟨by kernel_rfl, fun h => by simp at h⟩
def t_51 : TyD := { und := TypeDesc.func #[49] #[24] false, size := 1, bytes := 8, zero := [Value.nilFunc], fl := false }
theorem i_51 : TabE Try.prog (51, t_51, false) := ⟨by kernel_rfl, fun h => by simp at h⟩
def t_52 : TyD := { und := TypeDesc.func #[24, 24] #[4] false, size := 1, bytes := 8, zero := [Value.nilFunc], fl := false }
theorem i_52 : TabE Try.prog (52, t_52, false) := ⟨by kernel_rfl, fun h => by simp at h⟩
def t_53 : TyD := { und := TypeDesc.func #[24, 3] #[3] false, size := 1, bytes := 8, zero := [Value.nilFunc], fl := false }
theorem i_53 : TabE Try.prog (53, t_53, false) := ⟨by kernel_rfl, fun h => by simp at h⟩
def t_54 : TyD := { und := TypeDesc.func #[40, 3] #[3] false, size := 1, bytes := 8, zero := [Value.nilFunc], fl := false }
theorem i_54 : TabE Try.prog (54, t_54, false) := ⟨by kernel_rfl, fun h => by simp at h⟩
def t_55 : TyD := { und := TypeDesc.func #[49, 2, 2] #[4] false, size := 1, bytes := 8, zero := [Value.nilFunc], fl := false }
theorem i_55 : TabE Try.prog (55, t_55, false) := ⟨by kernel_rfl, fun h => by simp at h⟩
def t_56 : TyD := { und := TypeDesc.func #[57] #[24] false, size := 1, bytes := 8, zero := [Value.nilFunc], fl := false }
theorem i_56 : TabE Try.prog (56, t_56, false) := ⟨by kernel_rfl, fun h => by simp at h⟩
def t_57 : TyD := { und := TypeDesc.pointer 108, size := 1, bytes := 8, zero := [Value.pointer none], fl := false }
theorem i_57 : TabE Try.prog (57, t_57, false) := ⟨by kernel_rfl, fun h => by simp at h⟩
def t_58 : TyD := { und := TypeDesc.func #[22] #[57] false, size := 1, bytes := 8, zero := [Value.nilFunc], fl := false }
theorem i_58 : TabE Try.prog (58, t_58, false) := ⟨by kernel_rfl, fun h => by simp at h⟩
def t_59 : TyD := { und := TypeDesc.func #[24, 40, 40] #[2] true, size := 1, bytes := 8, zero := [Value.nilFunc], fl := false }
theorem i_59 : TabE Try.prog (59, t_59, false) := ⟨by kernel_rfl, fun h => by simp at h⟩
def t_60 : TyD := { und := TypeDesc.func #[2] #[4] false, size := 1, bytes := 8, zero := [Value.nilFunc], fl := false }
theorem i_60 : TabE Try.prog (60, t_60, false) := ⟨by kernel_rfl, fun h => by simp at h⟩
def t_61 : TyD := { und := TypeDesc.pointer 63, size := 1, bytes := 8, zero := [Value.pointer none], fl := false }
theorem i_61 : TabE Try.prog (61, t_61, false) := ⟨by kernel_rfl, fun h => by simp at h⟩
def t_62 : TyD := { und := TypeDesc.struct #[{ name := "bad", type := 4, offset := 0, embedded := false, tag := "", pkgPath := "loop.example/g01254/impl", byteOffset := 0 }], size := 1, bytes := 1, zero := [Value.bool false], fl := true }
theorem i_62 : TabE Try.prog (62, t_62, true) := ⟨by kernel_rfl, fun _ => by kernel_rfl⟩
def t_63 : TyD := { und := TypeDesc.struct #[{ name := "bad", type := 4, offset := 0, embedded := false, tag := "", pkgPath := "loop.example/g01254/impl", byteOffset := 0 }], size := 1, bytes := 1, zero := [Value.bool false], fl := true }
theorem i_63 : TabE Try.prog (63, t_63, true) := ⟨by kernel_rfl, fun _ => by kernel_rfl⟩
def t_64 : TyD := { und := TypeDesc.func #[24, 2] #[40] false, size := 1, bytes := 8, zero := [Value.nilFunc], fl := false }
theorem i_64 : TabE Try.prog (64, t_64, false) := ⟨by kernel_rfl, fun h => by simp at h⟩
def t_65 : TyD := { und := TypeDesc.func #[] #[30] false, size := 1, bytes := 8, zero := [Value.nilFunc], fl := false }
theorem i_65 : TabE Try.prog (65, t_65, false) := ⟨by kernel_rfl, fun h => by simp at h⟩
def t_66 : TyD := { und := TypeDesc.func #[30] #[30, 2] false, size := 1, bytes := 8, zero := [Value.nilFunc], fl := false }
theorem i_66 : TabE Try.prog (66, t_66, false) := ⟨by kernel_rfl, fun h => by simp at h⟩
def t_67 : TyD := { und := TypeDesc.func #[30, 30] #[30] false, size := 1, bytes := 8, zero := [Value.nilFunc], fl := false }
theorem i_67 : TabE Try.prog (67, t_67, false) := ⟨by kernel_rfl, fun h => by simp at h⟩
def t_68 : TyD := { und := TypeDesc.func #[24, 2, 2] #[30] false, size := 1, bytes := 8, zero := [Value.nilFunc], fl := false }
theorem i_68 : TabE Try.prog (68, t_68, false) := ⟨by kernel_rfl, fun h => by simp at h⟩
def t_69 : TyD := { und := TypeDesc.func #[24, 40, 2, 30] #[30] false, size := 1, bytes := 8, zero := [Value.nilFunc], fl := false }
theorem i_69 : TabE Try.prog (69, t_69, false) := ⟨by kernel_rfl, fun h => by simp at h⟩
def t_70 : TyD := { und := TypeDesc.func #[40] #[30, 2] false, size := 1, bytes := 8, zero := [Value.nilFunc], fl := false }
theorem i_70 : TabE Try.prog (70, t_70, false) := ⟨by kernel_rfl, fun h => by simp at h⟩
def t_71 : TyD := { und := TypeDesc.func #[30, 28] #[30] false, size := 1, bytes := 8, zero := [Value.nilFunc], fl := false }
theorem i_71 : TabE Try.prog (71, t_71, false) := ⟨by kernel_rfl, fun h => by simp at h⟩
def t_72 : TyD := { und := TypeDesc.func #[28, 28] #[28] false, size := 1, bytes := 8, zero := [Value.nilFunc], fl := false }
theorem i_72 : TabE Try.prog (72, t_72, false) := ⟨by kernel_rfl, fun h => by simp at h⟩
def t_73 : TyD := { und := TypeDesc.func #[2] #[28] false, size := 1, bytes := 8, zero := [Value.nilFunc], fl := false }
theorem i_73 : TabE Try.prog (73, t_73, false) := ⟨by kernel_rfl, fun h => by simp at h⟩
def t_74 : TyD := { und := TypeDesc.func #[24, 2, 2, 2] #[2] false, size := 1, bytes := 8, zero := [Value.nilFunc], fl := false }
theorem i_74 : TabE Try.prog (74, t_74, false) := ⟨by kernel_rfl, fun h => by simp at h⟩
def t_75 : TyD := { und := TypeDesc.func #[24, 2, 2] #[2] false, size := 1, bytes := 8, zero := [Value.nilFunc], fl := false }
theorem i_75 : TabE Try.prog (75, t_75, false) := ⟨by kernel_rfl, fun h => by simp at h⟩
def t_76 : TyD := { und := TypeDesc.func #[115] #[4] true, size := 1, bytes := 8, zero := [Value.nilFunc], fl := false }
theorem i_76 : TabE Try.prog (76, t_76, false) := ⟨by kernel_rfl, fun h => by simp at h⟩
def t_77 : TyD := { und := TypeDesc.func #[30] #[4] false, size := 1, bytes := 8, zero := [Value.nilFunc], fl := false }
theorem i_77 : TabE Try.prog (77, t_77, false) := ⟨by kernel_rfl, fun h => by simp at h⟩
def t_78 : TyD := { und := TypeDesc.func #[28] #[4] false, size := 1, bytes := 8, zero := [Value.nilFunc], fl := false }
theorem i_78 : TabE Try.prog (78, t_78, false) := ⟨by kernel_rfl, fun h => by simp at h⟩
def t_79 : TyD := { und := TypeDesc.func #[28, 28] #[2] false, size := 1, bytes := 8, zero := [Value.nilFunc], fl := false }
theorem i_79 : TabE Try.prog (79, t_79, false) := ⟨by kernel_rfl, fun h => by simp at h⟩
def t_80 : TyD := { und := TypeDesc.func #[24, 60] #[40] false, size := 1, bytes := 8, zero := [Value.nilFunc], fl := false }
theorem i_80 : TabE Try.prog (80, t_80, false) := ⟨by kernel_rfl, fun h => by simp at h⟩
def t_81 : TyD := { und := TypeDesc.func #[24, 2, 2] #[40] false, size := 1, bytes := 8, zero := [Value.nilFunc], fl := false }
theorem i_81 : TabE Try.prog (81, t_81, false) := ⟨by kernel_rfl, fun h => by simp at h⟩
def t_82 : TyD := { und := TypeDesc.func #[40, 2] #[3] false, size := 1, bytes := 8, zero := [Value.nilFunc], fl := false }
theorem i_82 : TabE Try.prog (82, t_82, false) := ⟨by kernel_rfl, fun h => by simp at h⟩
def t_83 : TyD := { und := TypeDesc.func #[24] #[4] false, size := 1, bytes := 8, zero := [Value.nilFunc], fl := false }
theorem i_83 : TabE Try.prog (83, t_83, false) := ⟨by kernel_rfl, fun h => by simp at h⟩
def t_84 : TyD := { und := TypeDesc.func #[85, 2] #[4] false, size := 1, bytes := 8, zero := [Value.nilFunc], fl := false }
theorem i_84 : TabE Try.prog (84, t_84, false) := ⟨by kernel_rfl, fun h => by simp at h⟩
def t_85 : TyD := { und := TypeDesc.pointer 32, size := 1, bytes := 8, zero := [Value.pointer none], fl := false }
theorem i_85 : TabE Try.prog (85, t_85, false) := ⟨by kernel_rfl, fun h => by simp at h⟩
def t_86 : TyD := { und := TypeDesc.func #[2] #[2] false, size := 1, bytes := 8, zero := [Value.nilFunc], fl := false }
theorem i_86 : TabE Try.prog (86, t_86, false) := ⟨by kernel_rfl, fun h => by simp at h⟩
def t_87 : TyD := { und := TypeDesc.func #[2, 2, 2] #[4] false, size := 1, bytes := 8, zero := [Value.nilFunc], fl := false }
theorem i_87 : TabE Try.prog (87, t_87, false) := ⟨by kernel_rfl, fun h => by simp at h⟩
def t_88 : TyD := { und := TypeDesc.func #[40, 89] #[] false, size := 1, bytes := 8, zero := [Value.nilFunc], fl := false }
theorem i_88 : TabE Try.prog (88, t_88, false) := ⟨by kernel_rfl, fun h => by simp at h⟩
def t_89 : TyD := { und := TypeDesc.func #[2, 2] #[3] false, size := 1, bytes := 8, zero := [Value.nilFunc], fl := false }
theorem i_89 : TabE Try.prog (89, t_89, false) := ⟨by kernel_rfl, fun h => by simp at h⟩
def t_90 : TyD := { und := TypeDesc.func #[95, 3] #[3] false, size := 1, bytes := 8, zero := [Value.nilFunc], fl := false }
theorem i_90 : TabE Try.prog (90, t_90, false) := ⟨by kernel_rfl, fun h => by simp at h⟩
def t_91 : TyD := { und := TypeDesc.struct #[{ name := "P", type := 2, offset := 0, embedded := false, tag := "", pkgPath := "", byteOffset := 0 }, { name := "Q", type := 2, offset := 1, embedded := false, tag := "", pkgPath := "", byteOffset := 8 }], size := 2, bytes := 16, zero := [Value.int IntKind.i64 0, Value.int IntKind.i64 0], fl := true }
theorem i_91 : TabE Try.prog (91, t_91, true) := ⟨by kernel_rfl, fun _ => by kernel_rfl⟩
def t_92 : TyD := { und := TypeDesc.struct #[{ name := "Low", type := 91, offset := 0, embedded := false, tag := "", pkgPath := "", byteOffset := 0 }, { name := "High", type := 91, offset := 2, embedded := false, tag := "", pkgPath := "", byteOffset := 16 }], size := 4, bytes := 32, zero := [Value.int IntKind.i64 0, Value.int IntKind.i64 0, Value.int IntKind.i64 0, Value.int IntKind.i64 0], fl := true }
theorem i_92 : TabE Try.prog (92, t_92, true) := ⟨by kernel_rfl, fun _ => by kernel_rfl⟩
def t_93 : TyD := { und := TypeDesc.struct #[{ name := "Low", type := 91, offset := 0, embedded := false, tag := "", pkgPath := "", byteOffset := 0 }, { name := "High", type := 91, offset := 2, embedded := false, tag := "", pkgPath := "", byteOffset := 16 }], size := 4, bytes := 32, zero := [Value.int IntKind.i64 0, Value.int IntKind.i64 0, Value.int IntKind.i64 0, Value.int IntKind.i64 0], fl := true }
theorem i_93 : TabE Try.prog (93, t_93, true) := ⟨by kernel_rfl, fun _ => by kernel_rfl⟩
def t_94 : TyD := { und := TypeDesc.struct #[{ name := "Name", type := 9, offset := 0, embedded := false, tag := "", pkgPath := "", byteOffset := 0 }, { name := "From", type := 2, offset := 1, embedded := false, tag := "", pkgPath := "", byteOffset := 16 }, { name := "Value", type := 93, offset := 2, embedded := false, tag := "", pkgPath := "", byteOffset := 24 }, { name := "Drift", type := 91, offset := 6, embedded := false, tag := "", pkgPath := "", byteOffset := 56 }, { name := "Made", type := 2, offset := 8, embedded := false, tag := "", pkgPath := "", byteOffset := 72 }, { name := "Good", type := 2, offset := 9, embedded := false, tag := "", pkgPath := "", byteOffset := 80 }], size := 10, bytes := 88, zero := [Value.string ⟨#[]⟩, Value.int IntKind.i64 0, Value.int IntKind.i64 0, Value.int IntKind.i64 0, Value.int IntKind.i64 0, Value.int IntKind.i64 0, Value.int IntKind.i64 0, Value.int IntKind.i64 0, Value.int IntKind.i64 0, Value.int IntKind.i64 0], fl := true }
theorem i_94 : TabE Try.prog (94, t_94, true) := ⟨by kernel_rfl, fun _ => by kernel_rfl⟩
def t_95 : TyD := { und := TypeDesc.struct #[{ name := "Name", type := 9, offset := 0, embedded := false, tag := "", pkgPath := "", byteOffset := 0 }, { name := "From", type := 2, offset := 1, embedded := false, tag := "", pkgPath := "", byteOffset := 16 }, { name := "Value", type := 93, offset := 2, embedded := false, tag := "", pkgPath := "", byteOffset := 24 }, { name := "Drift", type := 91, offset := 6, embedded := false, tag := "", pkgPath := "", byteOffset := 56 }, { name := "Made", type := 2, offset := 8, embedded := false, tag := "", pkgPath := "", byteOffset := 72 }, { name := "Good", type := 2, offset := 9, embedded := false, tag := "", pkgPath := "", byteOffset := 80 }], size := 10, bytes := 88, zero := [Value.string ⟨#[]⟩, Value.int IntKind.i64 0, Value.int IntKind.i64 0, Value.int IntKind.i64 0, Value.int IntKind.i64 0, Value.int IntKind.i64 0, Value.int IntKind.i64 0, Value.int IntKind.i64 0, Value.int IntKind.i64 0, Value.int IntKind.i64 0], fl := true }
theorem i_95 : TabE Try.prog (95, t_95, true) := ⟨by kernel_rfl, fun _ => by kernel_rfl⟩
def t_96 : TyD := { und := TypeDesc.func #[95] #[32] false, size := 1, bytes := 8, zero := [Value.nilFunc], fl := false }
theorem i_96 : TabE Try.prog (96, t_96, false) := ⟨by kernel_rfl, fun h => by simp at h⟩
def t_97 : TyD := { und := TypeDesc.func #[32, 32] #[4] false, size := 1, bytes := 8, zero := [Value.nilFunc], fl := false }
theorem i_97 : TabE Try.prog (97, t_97, false) := ⟨by kernel_rfl, fun h => by simp at h⟩
def t_98 : TyD := { und := TypeDesc.func #[3] #[9] false, size := 1, bytes := 8, zero := [Value.nilFunc], fl := false }
theorem i_98 : TabE Try.prog (98, t_98, false) := ⟨by kernel_rfl, fun h => by simp at h⟩
def t_99 : TyD := { und := TypeDesc.slice 9, size := 1, bytes := 24, zero := [Value.slice none 0 0], fl := false }
theorem i_99 : TabE Try.prog (99, t_99, false) := ⟨by kernel_rfl, fun h => by simp at h⟩
def t_100 : TyD := { und := TypeDesc.func #[] #[99] false, size := 1, bytes := 8, zero := [Value.nilFunc], fl := false }
theorem i_100 : TabE Try.prog (100, t_100, false) := ⟨by kernel_rfl, fun h => by simp at h⟩
def t_101 : TyD := { und := TypeDesc.func #[57, 2] #[30] false, size := 1, bytes := 8, zero := [Value.nilFunc], fl := false }
theorem i_101 : TabE Try.prog (101, t_101, false) := ⟨by kernel_rfl, fun h => by simp at h⟩
def t_102 : TyD := { und := TypeDesc.func #[57, 2] #[28] false, size := 1, bytes := 8, zero := [Value.nilFunc], fl := false }
theorem i_102 : TabE Try.prog (102, t_102, false) := ⟨by kernel_rfl, fun h => by simp at h⟩
def t_103 : TyD := { und := TypeDesc.func #[28] #[28] false, size := 1, bytes := 8, zero := [Value.nilFunc], fl := false }
theorem i_103 : TabE Try.prog (103, t_103, false) := ⟨by kernel_rfl, fun h => by simp at h⟩
def t_104 : TyD := { und := TypeDesc.func #[2, 2] #[2] false, size := 1, bytes := 8, zero := [Value.nilFunc], fl := false }
theorem i_104 : TabE Try.prog (104, t_104, false) := ⟨by kernel_rfl, fun h => by simp at h⟩
def t_105 : TyD := { und := TypeDesc.func #[40] #[2] false, size := 1, bytes := 8, zero := [Value.nilFunc], fl := false }
theorem i_105 : TabE Try.prog (105, t_105, false) := ⟨by kernel_rfl, fun h => by simp at h⟩
def t_106 : TyD := { und := TypeDesc.int IntKind.u64, size := 1, bytes := 8, zero := [Value.int IntKind.u64 0], fl := true }
theorem i_106 : TabE Try.prog (106, t_106, false) := ⟨by kernel_rfl, fun h => by simp at h⟩
def t_107 : TyD := { und := TypeDesc.struct #[{ name := "code", type := 22, offset := 0, embedded := false, tag := "", pkgPath := "loop.example/g01254/spec", byteOffset := 0 }, { name := "at", type := 3, offset := 1, embedded := false, tag := "", pkgPath := "loop.example/g01254/spec", byteOffset := 24 }, { name := "seed", type := 106, offset := 2, embedded := false, tag := "", pkgPath := "loop.example/g01254/spec", byteOffset := 32 }], size := 3, bytes := 40, zero := [Value.slice none 0 0, Value.int IntKind.i64 0, Value.int IntKind.u64 0], fl := false }
theorem i_107 : TabE Try.prog (107, t_107, true) := ⟨by kernel_rfl, fun _ => by kernel_rfl⟩
def t_108 : TyD := { und := TypeDesc.struct #[{ name := "code", type := 22, offset := 0, embedded := false, tag := "", pkgPath := "loop.example/g01254/spec", byteOffset := 0 }, { name := "at", type := 3, offset := 1, embedded := false, tag := "", pkgPath := "loop.example/g01254/spec", byteOffset := 24 }, { name := "seed", type := 106, offset := 2, embedded := false, tag := "", pkgPath := "loop.example/g01254/spec", byteOffset := 32 }], size := 3, bytes := 40, zero := [Value.slice none 0 0, Value.int IntKind.i64 0, Value.int IntKind.u64 0], fl := false }
theorem i_108 : TabE Try.prog (108, t_108, true) := ⟨by kernel_rfl, fun _ => by kernel_rfl⟩
def t_109 : TyD := { und := TypeDesc.func #[40, 60] #[4] false, size := 1, bytes := 8, zero := [Value.nilFunc], fl := false }
theorem i_109 : TabE Try.prog (109, t_109, false) := ⟨by kernel_rfl, fun h => by simp at h⟩
def t_110 : TyD := { und := TypeDesc.func #[] #[28] false, size := 1, bytes := 8, zero := [Value.nilFunc], fl := false }
theorem i_110 : TabE Try.prog (110, t_110, false) := ⟨by kernel_rfl, fun h => by simp at h⟩
def t_111 : TyD := { und := TypeDesc.func #[2, 2] #[28] false, size := 1, bytes := 8, zero := [Value.nilFunc], fl := false }
theorem i_111 : TabE Try.prog (111, t_111, false) := ⟨by kernel_rfl, fun h => by simp at h⟩
def t_112 : TyD := { und := TypeDesc.func #[24, 40, 30, 2] #[30, 2] false, size := 1, bytes := 8, zero := [Value.nilFunc], fl := false }
theorem i_112 : TabE Try.prog (112, t_112, false) := ⟨by kernel_rfl, fun h => by simp at h⟩
def t_113 : TyD := { und := TypeDesc.func #[24, 40, 2] #[2] false, size := 1, bytes := 8, zero := [Value.nilFunc], fl := false }
theorem i_113 : TabE Try.prog (113, t_113, false) := ⟨by kernel_rfl, fun h => by simp at h⟩
def t_114 : TyD := { und := TypeDesc.func #[30, 28, 2] #[30, 2] false, size := 1, bytes := 8, zero := [Value.nilFunc], fl := false }
theorem i_114 : TabE Try.prog (114, t_114, false) := ⟨by kernel_rfl, fun h => by simp at h⟩
def t_115 : TyD := { und := TypeDesc.slice 30, size := 1, bytes := 24, zero := [Value.slice none 0 0], fl := false }
theorem i_115 : TabE Try.prog (115, t_115, false) := ⟨by kernel_rfl, fun h => by simp at h⟩
def t_116 : TyD := { und := TypeDesc.func #[115, 77] #[4] false, size := 1, bytes := 8, zero := [Value.nilFunc], fl := false }
theorem i_116 : TabE Try.prog (116, t_116, false) := ⟨by kernel_rfl, fun h => by simp at h⟩
def t_117 : TyD := { und := TypeDesc.func #[136] #[4] true, size := 1, bytes := 8, zero := [Value.nilFunc], fl := false }
theorem i_117 : TabE Try.prog (117, t_117, false) := ⟨by kernel_rfl, fun h => by simp at h⟩
def t_118 : TyD := { und := TypeDesc.slice 4, size := 1, bytes := 24, zero := [Value.slice none 0 0], fl := false }
theorem i_118 : TabE Try.prog (118, t_118, false) := ⟨by kernel_rfl, fun h => by simp at h⟩
def t_119 : TyD := { und := TypeDesc.func #[9] #[4] false, size := 1, bytes := 8, zero := [Value.nilFunc], fl := false }
theorem i_119 : TabE Try.prog (119, t_119, false) := ⟨by kernel_rfl, fun h => by simp at h⟩
def t_120 : TyD := { und := TypeDesc.func #[24, 85] #[4] false, size := 1, bytes := 8, zero := [Value.nilFunc], fl := false }
theorem i_120 : TabE Try.prog (120, t_120, false) := ⟨by kernel_rfl, fun h => by simp at h⟩
def t_121 : TyD := { und := TypeDesc.func #[40, 3, 89] #[] false, size := 1, bytes := 8, zero := [Value.nilFunc], fl := false }
theorem i_121 : TabE Try.prog (121, t_121, false) := ⟨by kernel_rfl, fun h => by simp at h⟩
def t_122 : TyD := { und := TypeDesc.func #[93] #[30] false, size := 1, bytes := 8, zero := [Value.nilFunc], fl := false }
theorem i_122 : TabE Try.prog (122, t_122, false) := ⟨by kernel_rfl, fun h => by simp at h⟩
def t_123 : TyD := { und := TypeDesc.func #[91] #[28] false, size := 1, bytes := 8, zero := [Value.nilFunc], fl := false }
theorem i_123 : TabE Try.prog (123, t_123, false) := ⟨by kernel_rfl, fun h => by simp at h⟩
def t_124 : TyD := { und := TypeDesc.func #[30, 30] #[4] false, size := 1, bytes := 8, zero := [Value.nilFunc], fl := false }
theorem i_124 : TabE Try.prog (124, t_124, false) := ⟨by kernel_rfl, fun h => by simp at h⟩
def t_125 : TyD := { und := TypeDesc.func #[28, 28] #[4] false, size := 1, bytes := 8, zero := [Value.nilFunc], fl := false }
theorem i_125 : TabE Try.prog (125, t_125, false) := ⟨by kernel_rfl, fun h => by simp at h⟩
def t_126 : TyD := { und := TypeDesc.func #[] #[2] false, size := 1, bytes := 8, zero := [Value.nilFunc], fl := false }
theorem i_126 : TabE Try.prog (126, t_126, false) := ⟨by kernel_rfl, fun h => by simp at h⟩
def t_128 : TyD := { und := TypeDesc.func #[28, 28] #[28, 2] false, size := 1, bytes := 8, zero := [Value.nilFunc], fl := false }
theorem i_128 : TabE Try.prog (128, t_128, false) := ⟨by kernel_rfl, fun h => by simp at h⟩
def t_129 : TyD := { und := TypeDesc.func #[2, 2] #[28, 2] false, size := 1, bytes := 8, zero := [Value.nilFunc], fl := false }
theorem i_129 : TabE Try.prog (129, t_129, false) := ⟨by kernel_rfl, fun h => by simp at h⟩
def t_130 : TyD := { und := TypeDesc.func #[24, 131] #[4] false, size := 1, bytes := 8, zero := [Value.nilFunc], fl := false }
theorem i_130 : TabE Try.prog (130, t_130, false) := ⟨by kernel_rfl, fun h => by simp at h⟩
def t_131 : TyD := { und := TypeDesc.func #[32] #[4] false, size := 1, bytes := 8, zero := [Value.nilFunc], fl := false }
theorem i_131 : TabE Try.prog (131, t_131, false) := ⟨by kernel_rfl, fun h => by simp at h⟩
def t_132 : TyD := { und := TypeDesc.func #[40, 60] #[3] false, size := 1, bytes := 8, zero := [Value.nilFunc], fl := false }
theorem i_132 : TabE Try.prog (132, t_132, false) := ⟨by kernel_rfl, fun h => by simp at h⟩
def t_134 : TyD := { und := TypeDesc.func #[2, 2] #[28, 4] false, size := 1, bytes := 8, zero := [Value.nilFunc], fl := false }
theorem i_134 : TabE Try.prog (134, t_134, false) := ⟨by kernel_rfl, fun h => by simp at h⟩
def t_135 : TyD := { und := TypeDesc.func #[115, 77] #[3] false, size := 1, bytes := 8, zero := [Value.nilFunc], fl := false }
theorem i_135 : TabE Try.prog (135, t_135, false) := ⟨by kernel_rfl, fun h => by simp at h⟩
def t_136 : TyD := { und := TypeDesc.slice 28, size := 1, bytes := 24, zero := [Value.slice none 0 0], fl := false }
theorem i_136 : TabE Try.prog (136, t_136, false) := ⟨by kernel_rfl, fun h => by simp at h⟩
def t_137 : TyD := { und := TypeDesc.func #[136, 78] #[4] false, size := 1, bytes := 8, zero := [Value.nilFunc], fl := false }
theorem i_137 : TabE Try.prog (137, t_137, false) := ⟨by kernel_rfl, fun h => by simp at h⟩
def t_138 : TyD := { und := TypeDesc.func #[139] #[4] false, size := 1, bytes := 8, zero := [Value.nilFunc], fl := false }
theorem i_138 : TabE Try.prog (138, t_138, false) := ⟨by kernel_rfl, fun h => by simp at h⟩
def t_139 : TyD := { und := TypeDesc.pointer 30, size := 1, bytes := 8, zero := [Value.pointer none], fl := false }
theorem i_139 : TabE Try.prog (139, t_139, false) := ⟨by kernel_rfl, fun h => by simp at h⟩
def t_140 : TyD := { und := TypeDesc.func #[40, 3, 3, 89] #[] false, size := 1, bytes := 8, zero := [Value.nilFunc], fl := false }
theorem i_140 : TabE Try.prog (140, t_140, false) := ⟨by kernel_rfl, fun h => by simp at h⟩
def t_141 : TyD := { und := TypeDesc.func #[40, 3, 3, 3, 89] #[] false, size := 1, bytes := 8, zero := [Value.nilFunc], fl := false }
theorem i_141 : TabE Try.prog (141, t_141, false) := ⟨by kernel_rfl, fun h => by simp at h⟩
def t_142 : TyD := { und := TypeDesc.int IntKind.u64, size := 1, bytes := 8, zero := [Value.int IntKind.u64 0], fl := true }
theorem i_142 : TabE Try.prog (142, t_142, false) := ⟨by kernel_rfl, fun h => by simp at h⟩
def t_143 : TyD := { und := TypeDesc.func #[24, 131] #[3] false, size := 1, bytes := 8, zero := [Value.nilFunc], fl := false }
theorem i_143 : TabE Try.prog (143, t_143, false) := ⟨by kernel_rfl, fun h => by simp at h⟩
def t_144 : TyD := { und := TypeDesc.func #[28, 2, 28, 2] #[30, 2] false, size := 1, bytes := 8, zero := [Value.nilFunc], fl := false }
theorem i_144 : TabE Try.prog (144, t_144, false) := ⟨by kernel_rfl, fun h => by simp at h⟩
def t_145 : TyD := { und := TypeDesc.func #[136, 78] #[3] false, size := 1, bytes := 8, zero := [Value.nilFunc], fl := false }
theorem i_145 : TabE Try.prog (145, t_145, false) := ⟨by kernel_rfl, fun h => by simp at h⟩
def t_146 : TyD := { und := TypeDesc.func #[] #[9] false, size := 1, bytes := 8, zero := [Value.nilFunc], fl := false }
theorem i_146 : TabE Try.prog (146, t_146, false) := ⟨by kernel_rfl, fun h => by simp at h⟩
def t_147 : TyD := { und := TypeDesc.struct #[{ name := "_interface", type := 17, offset := 0, embedded := false, tag := "", pkgPath := "runtime", byteOffset := 0 }, { name := "concrete", type := 17, offset := 1, embedded := false, tag := "", pkgPath := "runtime", byteOffset := 8 }, { name := "asserted", type := 17, offset := 2, embedded := false, tag := "", pkgPath := "runtime", byteOffset := 16 }, { name := "missingMethod", type := 9, offset := 3, embedded := false, tag := "", pkgPath := "runtime", byteOffset := 24 }], size := 4, bytes := 40, zero := [Value.pointer none, Value.pointer none, Value.pointer none, Value.string ⟨#[]⟩], fl := false }
theorem i_147 : TabE Try.prog (147, t_147, false) := ⟨by kernel_rfl, fun h => by simp at h⟩
def t_148 : TyD := { und := TypeDesc.struct #[{ name := "_interface", type := 17, offset := 0, embedded := false, tag := "", pkgPath := "runtime", byteOffset := 0 }, { name := "concrete", type := 17, offset := 1, embedded := false, tag := "", pkgPath := "runtime", byteOffset := 8 }, { name := "asserted", type := 17, offset := 2, embedded := false, tag := "", pkgPath := "runtime", byteOffset := 16 }, { name := "missingMethod", type := 9, offset := 3, embedded := false, tag := "", pkgPath := "runtime", byteOffset := 24 }], size := 4, bytes := 40, zero := [Value.pointer none, Value.pointer none, Value.pointer none, Value.string ⟨#[]⟩], fl := false }
theorem i_148 : TabE Try.prog (148, t_148, false) := ⟨by kernel_rfl, fun h => by simp at h⟩
def t_149 : TyD := { und := TypeDesc.array 0 16, size := 0, bytes := 0, zero := [], fl := false }
theorem i_149 : TabE Try.prog (149, t_149, false) := ⟨by kernel_rfl, fun h => by simp at h⟩
def t_150 : TyD := { und := TypeDesc.struct #[{ name := "_", type := 149, offset := 0, embedded := false, tag := "", pkgPath := "runtime", byteOffset := 0 }], size := 0, bytes := 0, zero := [], fl := false }
theorem i_150 : TabE Try.prog (150, t_150, false) := ⟨by kernel_rfl, fun h => by simp at h⟩
def t_151 : TyD := { und := TypeDesc.struct #[{ name := "_", type := 149, offset := 0, embedded := false, tag := "", pkgPath := "runtime", byteOffset := 0 }], size := 0, bytes := 0, zero := [], fl := false }
theorem i_151 : TabE Try.prog (151, t_151, false) := ⟨by kernel_rfl, fun h => by simp at h⟩
def t_152 : TyD := { und := TypeDesc.func #[] #[3] false, size := 1, bytes := 8, zero := [Value.nilFunc], fl := false }
theorem i_152 : TabE Try.prog (152, t_152, false) := ⟨by kernel_rfl, fun h => by simp at h⟩
def t_153 : TyD := { und := TypeDesc.int IntKind.u32, size := 1, bytes := 4, zero := [Value.int IntKind.u32 0], fl := true }
theorem i_153 : TabE Try.prog (153, t_153, false) := ⟨by kernel_rfl, fun h => by simp at h⟩
def t_154 : TyD := { und := TypeDesc.int IntKind.u8, size := 1, bytes := 1, zero := [Value.int IntKind.u8 0], fl := true }
theorem i_154 : TabE Try.prog (154, t_154, false) := ⟨by kernel_rfl, fun h => by simp at h⟩
def t_155 : TyD := { und := TypeDesc.int IntKind.u8, size := 1, bytes := 1, zero := [Value.int IntKind.u8 0], fl := true }
theorem i_155 : TabE Try.prog (155, t_155, false) := ⟨by kernel_rfl, fun h => by simp at h⟩
def t_156 : TyD := { und := TypeDesc.func #[162, 162] #[4] false, size := 1, bytes := 8, zero := [Value.nilFunc], fl := false }
theorem i_156 : TabE Try.prog (156, t_156, false) := ⟨by kernel_rfl, fun h => by simp at h⟩
def t_157 : TyD := { und := TypeDesc.pointer 5, size := 1, bytes := 8, zero := [Value.pointer none], fl := false }
theorem i_157 : TabE Try.prog (157, t_157, false) := ⟨by kernel_rfl, fun h => by simp at h⟩
def t_158 : TyD := { und := TypeDesc.int IntKind.i32, size := 1, bytes := 4, zero := [Value.int IntKind.i32 0], fl := true }
theorem i_158 : TabE Try.prog (158, t_158, false) := ⟨by kernel_rfl, fun h => by simp at h⟩
def t_159 : TyD := { und := TypeDesc.int IntKind.i32, size := 1, bytes := 4, zero := [Value.int IntKind.i32 0], fl := true }
theorem i_159 : TabE Try.prog (159, t_159, false) := ⟨by kernel_rfl, fun h => by simp at h⟩
def t_160 : TyD := { und := TypeDesc.struct #[{ name := "Size_", type := 12, offset := 0, embedded := false, tag := "", pkgPath := "", byteOffset := 0 }, { name := "PtrBytes", type := 12, offset := 1, embedded := false, tag := "", pkgPath := "", byteOffset := 8 }, { name := "Hash", type := 153, offset := 2, embedded := false, tag := "", pkgPath := "", byteOffset := 16 }, { name := "TFlag", type := 154, offset := 3, embedded := false, tag := "", pkgPath := "", byteOffset := 20 }, { name := "Align_", type := 5, offset := 4, embedded := false, tag := "", pkgPath := "", byteOffset := 21 }, { name := "FieldAlign_", type := 5, offset := 5, embedded := false, tag := "", pkgPath := "", byteOffset := 22 }, { name := "Kind_", type := 155, offset := 6, embedded := false, tag := "", pkgPath := "", byteOffset := 23 }, { name := "Equal", type := 156, offset := 7, embedded := false, tag := "", pkgPath := "", byteOffset := 24 }, { name := "GCData", type := 157, offset := 8, embedded := false, tag := "", pkgPath := "", byteOffset := 32 }, { name := "Str", type := 158, offset := 9, embedded := false, tag := "", pkgPath := "", byteOffset := 40 }, { name := "PtrToThis", type := 159, offset := 10, embedded := false, tag := "", pkgPath := "", byteOffset := 44 }], size := 11, bytes := 48, zero := [Value.int IntKind.u64 0, Value.int IntKind.u64 0, Value.int IntKind.u32 0, Value.int IntKind.u8 0, Value.int IntKind.u8 0, Value.int IntKind.u8 0, Value.int IntKind.u8 0, Value.nilFunc, Value.pointer none, Value.int IntKind.i32 0, Value.int IntKind.i32 0], fl := false }
theorem i_160 : TabE Try.prog (160, t_160, false) := ⟨by kernel_rfl, fun h => by simp at h⟩
def t_161 : TyD := { und := TypeDesc.struct #[{ name := "Size_", type := 12, offset := 0, embedded := false, tag := "", pkgPath := "", byteOffset := 0 }, { name := "PtrBytes", type := 12, offset := 1, embedded := false, tag := "", pkgPath := "", byteOffset := 8 }, { name := "Hash", type := 153, offset := 2, embedded := false, tag := "", pkgPath := "", byteOffset := 16 }, { name := "TFlag", type := 154, offset := 3, embedded := false, tag := "", pkgPath := "", byteOffset := 20 }, { name := "Align_", type := 5, offset := 4, embedded := false, tag := "", pkgPath := "", byteOffset := 21 }, { name := "FieldAlign_", type := 5, offset := 5, embedded := false, tag := "", pkgPath := "", byteOffset := 22 }, { name := "Kind_", type := 155, offset := 6, embedded := false, tag := "", pkgPath := "", byteOffset := 23 }, { name := "Equal", type := 156, offset := 7, embedded := false, tag := "", pkgPath := "", byteOffset := 24 }, { name := "GCData", type := 157, offset := 8, embedded := false, tag := "", pkgPath := "", byteOffset := 32 }, { name := "Str", type := 158, offset := 9, embedded := false, tag := "", pkgPath := "", byteOffset := 40 }, { name := "PtrToThis", type := 159, offset := 10, embedded := false, tag := "", pkgPath := "", byteOffset := 44 }], size := 11, bytes := 48, zero := [Value.int IntKind.u64 0, Value.int IntKind.u64 0, Value.int IntKind.u32 0, Value.int IntKind.u8 0, Value.int IntKind.u8 0, Value.int IntKind.u8 0, Value.int IntKind.u8 0, Value.nilFunc, Value.pointer none, Value.int IntKind.i32 0, Value.int IntKind.i32 0], fl := false }
theorem i_161 : TabE Try.prog (161, t_161, false) := ⟨by kernel_rfl, fun h => by simp at h⟩
def t_162 : TyD := { und := TypeDesc.unsafePointer, size := 1, bytes := 8, zero := [Value.pointer none], fl := false }
theorem i_162 : TabE Try.prog (162, t_162, false) := ⟨by kernel_rfl, fun h => by simp at h⟩
def tyTab : List (Nat × TyD × Bool) := [(1, t_1, false), (2, t_2, false), (3, t_3, false), (4, t_4, false), (5, t_5, false), (6, t_6, false), (7, t_7, true), (8, t_8, true), (9, t_9, false), (10, t_10, false), (11, t_11, false), (12, t_12, false), (13, t_13, false), (14, t_14, false), (15, t_15, false), (16, t_16, false), (17, t_17, false), (18, t_18, false), (19, t_19, false), (21, t_21, false), (22, t_22, false), (23, t_23, false), (24, t_24, false), (25, t_25, false), (26, t_26, false), (27, t_27, true), (28, t_28, true), (29, t_29, true), (30, t_30, true), (31, t_31, true), (32, t_32, true), (34, t_34, false), (35, t_35, false), (36, t_36, false), (38, t_38, false), (39, t_39, false), (40, t_40, false), (42, t_42, false), (43, t_43, false), (44, t_44, false), (45, t_45, false), (46, t_46, false), (48, t_48, false), (49, t_49, false), (50, t_50, false), (51, t_51, false), (52, t_52, false), (53, t_53, false), (54, t_54, false), (55, t_55, false), (56, t_56, false), (57, t_57, false), (58, t_58, false), (59, t_59, false), (60, t_60, false), (61, t_61, false), (62, t_62, true), (63, t_63, true), (64, t_64, false), (65, t_65, false), (66, t_66, false), (67, t_67, false), (68, t_68, false), (69, t_69, false), (70, t_70, false), (71, t_71, false), (72, t_72, false), (73, t_73, false), (74, t_74, false), (75, t_75, false), (76, t_76, false), (77, t_77, false), (78, t_78, false), (79, t_79, false), (80, t_80, false), (81, t_81, false), (82, t_82, false), (83, t_83, false), (84, t_84, false), (85, t_85, false), (86, t_86, false), (87, t_87, false), (88, t_88, false), (89, t_89, false), (90, t_90, false), (91, t_91, true), (92, t_92, true), (93, t_93, true), (94, t_94, true), (95, t_95, true), (96, t_96, false), (97, t_97, false), (98, t_98, false), (99, t_99, false), (100, t_100, false), (101, t_101, false), (102, t_102, false), (103, t_103, false), (104, t_104, false), (105, t_105, false), (106, t_106, false), (107, t_107, true), (108, t_108, true), (109, t_109, false), (110, t_110, false), (111, t_111, false), (112, t_112, false), (113, t_113, false), (114, t_114, false), (115, t_115, false), (116, t_116, false), (117, t_117, false), (118, t_118, false), (119, t_119, false), (120, t_120, false), (121, t_121, false), (122, t_122, false), (123, t_123, false), (124, t_124, false), (125, t_125, false), (126, t_126, false), (128, t_128, false), (129, t_129, false), (130, t_130, false), (131, t_131, false), (132, t_132, false), (134, t_134, false), (135, t_135, false), (136, t_136, false), (137, t_137, false), (138, t_138, false), (139, t_139, false), (140, t_140, false), (141, t_141, false), (142, t_142, false), (143, t_143, false), (144, t_144, false), (145, t_145, false), (146, t_146, false), (147, t_147, false), (148, t_148, false), (149, t_149, false), (150, t_150, false), (151, t_151, false), (152, t_152, false), (153, t_153, false), (154, t_154, false), (155, t_155, false), (156, t_156, false), (157, t_157, false), (158, t_158, false), (159, t_159, false), (160, t_160, false), (161, t_161, false), (162, t_162, false)]
@[reducible] def T0 : Ty := lookT tyTab
@[reducible] def Q0 : Nat → Bool := lookQ tyTab
theorem tabOk : TabOk Try.prog T0 Q0 := tab_ok (l := tyTab) (⟨i_1, i_2, i_3, i_4, i_5, i_6, i_7, i_8, i_9, i_10, i_11, i_12, i_13, i_14, i_15, i_16, i_17, i_18, i_19, i_21, i_22, i_23, i_24, i_25, i_26, i_27, i_28, i_29, i_30, i_31, i_32, i_34, i_35, i_36, i_38, i_39, i_40, i_42, i_43, i_44, i_45, i_46, i_48, i_49, i_50, i_51, i_52, i_53, i_54, i_55, i_56, i_57, i_58, i_59, i_60, i_61, i_62, i_63, i_64, i_65, i_66, i_67, i_68, i_69, i_70, i_71, i_72, i_73, i_74, i_75, i_76, i_77, i_78, i_79, i_80, i_81, i_82, i_83, i_84, i_85, i_86, i_87, i_88, i_89, i_90, i_91, i_92, i_93, i_94, i_95, i_96, i_97, i_98, i_99, i_100, i_101, i_102, i_103, i_104, i_105, i_106, i_107, i_108, i_109, i_110, i_111, i_112, i_113, i_114, i_115, i_116, i_117, i_118, i_119, i_120, i_121, i_122, i_123, i_124, i_125, i_126, i_128, i_129, i_130, i_131, i_132, i_134, i_135, i_136, i_137, i_138, i_139, i_140, i_141, i_142, i_143, i_144, i_145, i_146, i_147, i_148, i_149, i_150, i_151, i_152, i_153, i_154, i_155, i_156, i_157, i_158, i_159, i_160, i_161, i_162, trivial⟩)
end Go.Proofs.Ytnmpgofhdjcpaaa.Eng
set_option linter.unusedVariables false
set_option linter.unusedSimpArgs false
namespace Go.Proofs.Ytnmpgofhdjcpaaa.Eng
open Go Go.RowKit
set_option maxRecDepth 100000
theorem tmod_lt {a b : Int} (h : b ≠ 0) : (a.tmod b).natAbs < b.natAbs := by
  rw [Int.natAbs_tmod]; exact Nat.mod_lt _ (by omega)
theorem gcd_tmod {a b : Int} : Int.gcd b (a.tmod b) = Int.gcd a b := by
  simp only [Int.gcd, Int.natAbs_tmod]
  rw [Nat.gcd_comm, ← Nat.gcd_rec, Nat.gcd_comm]
theorem seg_get {α : Type} {l : List α} {s n i : Nat} {a : α} (h : (seg l s n)[i]? = some a) : l[s + i]? = some a ∧ i < n := by
  unfold seg at h
  rw [List.getElem?_take] at h
  split at h
  · rw [List.getElem?_drop] at h; exact ⟨h, by assumption⟩
  · simp at h
theorem seg_len {α : Type} {l : List α} {s n : Nat} (h : s + n ≤ l.length) : (seg l s n).length = n := by
  simp [seg]; omega
theorem atL_i {α : Type} {l : List α} {s n i : Nat} {a : α} {K : α → Prop} (ha : (seg l s n)[i]? = some a) (h : K a) : atL l (s + ((i : Nat) : Int).toNat) K :=
  atL_iff.2 ⟨a, by simpa using (seg_get ha).1, h⟩
theorem atL_0 {α : Type} {l : List α} {i : Nat} {a : α} {K : α → Prop} (ha : l[i]? = some a) (h : K a) : atL l (0 + ((i : Nat) : Int).toNat) K :=
  atL_iff.2 ⟨a, by simpa using ha, h⟩
theorem atL_n {α : Type} {l : List α} {i : Nat} {a : α} {K : α → Prop} (ha : l[i]? = some a) (h : K a) : atL l ((i : Nat) : Int).toNat K :=
  atL_iff.2 ⟨a, by simpa using ha, h⟩
theorem atL_p {α : Type} {l : List α} {i : Nat} {a : α} {K : α → Prop} (ha : l[i]? = some a) (h : K a) : atL l i K := atL_iff.2 ⟨a, ha, h⟩
theorem atL_e {α : Type} {l : List α} {i j : Nat} {a : α} {K : α → Prop} (e : i = j) (ha : l[j]? = some a) (h : K a) : atL l i K := by subst e; exact atL_iff.2 ⟨a, ha, h⟩
theorem seg_all {α : Type} (l : List α) : seg l 0 l.length = l := by simp [seg]
theorem seg_full {α : Type} {l : List α} {n : Nat} (h : l.length = n) : seg l 0 n = l := by simp [seg, ← h]
theorem get_some {α : Type} {l : List α} {i : Nat} (h : i < l.length) : ∃ a, l[i]? = some a := ⟨l[i], by simp [h]⟩
/-- The first place where p holds, or -1. -/
def findI {α : Type} (p : α → Bool) (l : List α) : Int := if l.any p = true then (l.findIdx p : Int) else -1
theorem findI_none {α : Type} {p : α → Bool} {l : List α} (h : ∀ (j : Nat) a, l[j]? = some a → p a = false) : findI p l = -1 := by
  unfold findI
  rw [if_neg]
  rw [List.any_eq_true]
  rintro ⟨a, ha, hp⟩
  obtain ⟨j, hj⟩ := List.getElem?_of_mem ha
  rw [h j a hj] at hp; simp at hp
theorem findI_some {α : Type} {p : α → Bool} {l : List α} {i : Nat} {a : α} (ha : l[i]? = some a) (hp : p a = true) (h : ∀ (j : Nat) a, j < i → l[j]? = some a → p a = false) : findI p l = i := by
  unfold findI
  rw [if_pos (List.any_eq_true.2 ⟨a, List.mem_of_getElem? ha, hp⟩)]
  obtain ⟨hi, e⟩ := List.getElem?_eq_some_iff.1 ha
  have : l.findIdx p = i := by
    rw [List.findIdx_eq hi]
    exact ⟨by rw [e]; exact hp, fun j hj => h j _ hj (by simp)⟩
  rw [this]
theorem findI_any {α : Type} (p : α → Bool) (l : List α) : decide (0 ≤ findI p l) = l.any p := by
  unfold findI
  split
  · rename_i h; rw [h]; simp
  · rename_i h
    have : l.any p = false := by simpa using h
    rw [this]; rfl
/-- One more place where something holds. -/
theorem upto_step {α : Type} {p : α → Prop} {L : List α} {i : Nat} {a : α} (ha : L[i]? = some a) (hp : p a) (h : ∀ (j : Nat) b, j < i → L[j]? = some b → p b) : ∀ (j : Nat) b, j < i + 1 → L[j]? = some b → p b := fun j b hj hb => by
  by_cases e : j < i
  · exact h j b e hb
  · obtain rfl : j = i := by omega
    rw [ha] at hb; obtain rfl := Option.some.inj hb; exact hp
/-- Tests whose outcome is known. -/
theorem splitT_of {b : Bool} {A B : Prop} (h : b = true) (k : A) : splitB b A B := by subst h; exact splitT k
theorem splitF_of {b : Bool} {A B : Prop} (h : b = false) (k : B) : splitB b A B := by subst h; exact splitF k
theorem seg_take {α : Type} {l : List α} {s m i : Nat} (hi : i ≤ m) : seg l s i = (seg l s m).take i := by
  unfold seg; rw [List.take_take]; congr 1; omega
theorem any_take {α : Type} {p : α → Bool} {L : List α} {i j : Nat} {b : α} (hb : L[j]? = some b) (hj : j < i) (h : p b = true) : (L.take i).any p = true := by
  rw [List.any_eq_true]
  exact ⟨b, List.mem_of_getElem? (i := j) (by rw [List.getElem?_take, if_pos hj]; exact hb), h⟩
theorem any_no {α : Type} {p : α → Bool} {L : List α} (h : ∀ (k : Nat) a, L[k]? = some a → p a = false) : L.any p = false := by
  rw [List.any_eq_false]
  intro a ha
  obtain ⟨j, hj⟩ := List.getElem?_of_mem ha
  rw [h j a hj]; simp
/-- All elements with their places. -/
def allI {α : Type} (d : α) (f : Nat → α → Bool) (E : List α) : Bool := (List.range E.length).all fun k : Nat => f k ((E[k]?).getD d)
theorem allI_yes {α : Type} {d : α} {f : Nat → α → Bool} {E : List α} {n : Nat} (hn : E.length = n) (h : ∀ (k : Nat) a, k < n → E[k]? = some a → f k a = true) : allI d f E = true := by
  unfold allI
  rw [List.all_eq_true]
  intro k hk
  rw [List.mem_range] at hk
  obtain ⟨a, ha⟩ : ∃ a, E[k]? = some a := ⟨E[k], by simp [hk]⟩
  rw [ha]; exact h k a (by omega) ha
theorem allI_no {α : Type} {d : α} {f : Nat → α → Bool} {E : List α} {k : Nat} {a : α} (ha : E[k]? = some a) (h : f k a = false) : allI d f E = false := by
  unfold allI
  rw [List.all_eq_false]
  have := (List.getElem?_eq_some_iff.1 ha).1
  exact ⟨k, List.mem_range.2 this, by rw [ha]; simp [h]⟩
theorem allI_at {α : Type} {d : α} {f : Nat → α → Bool} {E : List α} (h : allI d f E = true) {k : Nat} {a : α} (ha : E[k]? = some a) : f k a = true := by
  unfold allI at h
  rw [List.all_eq_true] at h
  have := h k (List.mem_range.2 (List.getElem?_eq_some_iff.1 ha).1)
  rwa [ha] at this
theorem allI_iff {α : Type} {d : α} {f : Nat → α → Bool} {E : List α} : allI d f E = true ↔ ∀ (k : Nat) a, E[k]? = some a → f k a = true :=
  ⟨fun h k a ha => allI_at h ha, fun h => allI_yes rfl fun k a _ ha => h k a ha⟩
theorem upto_step2 {α : Type} {p : Nat → α → Prop} {L : List α} {i : Nat} {a : α} (ha : L[i]? = some a) (hp : p i a) (h : ∀ (j : Nat) b, j < i → L[j]? = some b → p j b) : ∀ (j : Nat) b, j < i + 1 → L[j]? = some b → p j b := fun j b hj hb => by
  by_cases e : j < i
  · exact h j b e hb
  · obtain rfl : j = i := by omega
    rw [ha] at hb; obtain rfl := Option.some.inj hb; exact hp
def s_within : Spec := fun args S => match args, S with
  | [.int .i64 n, .int .i64 a, .int .i64 b], [] => ⟨True, .bool (decide (a ≤ n ∧ n ≤ b)), []⟩
  | _, _ => noSpec
theorem ok_within : SpecOk Try.prog 71 s_within := by
  intro args S h; unfold s_within at h ⊢; (split at h <;> first | exact False.elim h | skip)
  dsimp only at h ⊢
  refine funW tabOk (E := []) trivial [] (k := 0) (fn := Try.f71) rfl rfl rfl rfl rfl rfl ?_
  (repeat' ((try (conv => whnf)); first | (with_reducible first | refine And.intro ?_ ?_ | refine WX.of ?_) | exact zc | ((with_reducible refine VC.mk ?_); exact zw) | (with_reducible first | refine splitT ?_ | refine splitF ?_) | ((with_reducible refine splitM.mk (fun hsm => ?_) (fun hsm => ?_)) <;> (try exact zx)) | ((with_reducible refine splitB.mk (fun h => ?_) (fun h => ?_)) <;> (try simp only [zs, ne_eq] at h) <;> (try simp (disch := omega) only [w64] at h) <;> (try exact zx)) | (with_reducible intro hz; (try exact absurd hz (Nat.succ_ne_zero _)))))
  all_goals (first | exact ⟨rfl⟩ | (refine ⟨?_⟩; simp_all; done) | (refine ⟨?_⟩; simp_all; omega))
theorem ok_l00In : SpecOk Try.prog 102 s_within := by
  intro args S h; unfold s_within at h ⊢; (split at h <;> first | exact False.elim h | skip)
  dsimp only at h ⊢
  refine funW tabOk (E := []) trivial [] (k := 0) (fn := Try.f102) rfl rfl rfl rfl rfl rfl ?_
  (repeat' ((try (conv => whnf)); first | (with_reducible first | refine And.intro ?_ ?_ | refine WX.of ?_) | exact zc | ((with_reducible refine VC.mk ?_); exact zw) | (with_reducible first | refine splitT ?_ | refine splitF ?_) | ((with_reducible refine splitM.mk (fun hsm => ?_) (fun hsm => ?_)) <;> (try exact zx)) | ((with_reducible refine splitB.mk (fun h => ?_) (fun h => ?_)) <;> (try simp only [zs, ne_eq] at h) <;> (try simp (disch := omega) only [w64] at h) <;> (try exact zx)) | (with_reducible intro hz; (try exact absurd hz (Nat.succ_ne_zero _)))))
  all_goals (first | exact ⟨rfl⟩ | (refine ⟨?_⟩; simp_all; done) | (refine ⟨?_⟩; simp_all; omega))
/-- The sizes of all elements. -/
def tot {α : Type} (f : α → Nat) (l : List α) : Nat := (l.map f).sum
def s_gcd : Spec := fun args S => match args, S with
  | [.int .i64 a, .int .i64 b], [] => ⟨-9223372036854775808 < a ∧ a < 9223372036854775808 ∧ -9223372036854775808 < b ∧ b < 9223372036854775808, .int .i64 (Int.gcd a b), []⟩
  | _, _ => noSpec
theorem ok_gcd : SpecOk Try.prog 106 s_gcd := by
  intro args S h; unfold s_gcd at h ⊢; (split at h <;> first | exact False.elim h | skip)
  dsimp only at h ⊢
  rename_i a b
  refine funW tabOk (E := []) trivial [] (k := 0) (fn := Try.f106) rfl rfl rfl rfl rfl rfl ?_
  (repeat' ((try (conv => whnf)); first | (with_reducible first | refine And.intro ?_ ?_ | refine WX.of ?_) | exact zc | ((with_reducible refine VC.mk ?_); exact zw) | (with_reducible first | refine splitT ?_ | refine splitF ?_) | ((with_reducible refine splitM.mk (fun hsm => ?_) (fun hsm => ?_)) <;> (try exact zx)) | ((with_reducible refine splitB.mk (fun h => ?_) (fun h => ?_)) <;> (try simp only [zs, ne_eq] at h) <;> (try simp (disch := omega) only [w64] at h) <;> (try exact zx)) | (with_reducible intro hz; (try exact absurd hz (Nat.succ_ne_zero _)))))
  refine loopW tabOk (E := []) trivial [] (σ := Int × Int) (fun s => [(0, .int .i64 s.1), (1, .int .i64 s.2)]) (fun _ => []) (fun s => s.2.natAbs) (fun s => Int.gcd s.1 s.2 = Int.gcd a b ∧ -9223372036854775808 < s.1 ∧ s.1 < 9223372036854775808 ∧ -9223372036854775808 < s.2 ∧ s.2 < 9223372036854775808) (a, b) ⟨rfl, h⟩ ?_ ?_
  · (repeat' ((try (conv => whnf)); first | (with_reducible first | refine And.intro ?_ ?_ | refine WX.of ?_) | exact zc | ((with_reducible refine VC.mk ?_); exact zw) | (with_reducible first | refine splitT ?_ | refine splitF ?_) | ((with_reducible refine splitM.mk (fun hsm => ?_) (fun hsm => ?_)) <;> (try exact zx)) | ((with_reducible refine splitB.mk (fun h => ?_) (fun h => ?_)) <;> (try simp only [zs, ne_eq] at h) <;> (try simp (disch := omega) only [w64] at h) <;> (try exact zx)) | (with_reducible intro hz; (try exact absurd hz (Nat.succ_ne_zero _)))))
  · rintro ⟨x, y⟩ ⟨hg, hr⟩
    dsimp only at hg hr
    (repeat' ((try (conv => whnf)); first | (with_reducible first | refine And.intro ?_ ?_ | refine WX.of ?_) | exact zc | ((with_reducible refine VC.mk ?_); exact zw) | (with_reducible first | refine splitT ?_ | refine splitF ?_) | ((with_reducible refine splitM.mk (fun hsm => ?_) (fun hsm => ?_)) <;> (try exact zx)) | ((with_reducible refine splitB.mk (fun h => ?_) (fun h => ?_)) <;> (try simp only [zs, ne_eq] at h) <;> (try simp (disch := omega) only [w64] at h) <;> (try exact zx)) | (with_reducible intro hz; (try exact absurd hz (Nat.succ_ne_zero _)))))
    · have := tmod_lt (a := x) h
      refine ⟨(y, x.tmod y), this, ⟨by rw [← hg]; exact gcd_tmod, ?_⟩, ?_⟩
      · dsimp only; omega
      · (repeat' ((try (conv => whnf)); first | (with_reducible first | refine And.intro ?_ ?_ | refine WX.of ?_) | exact zc | ((with_reducible refine VC.mk ?_); exact zw) | (with_reducible first | refine splitT ?_ | refine splitF ?_) | ((with_reducible refine splitM.mk (fun hsm => ?_) (fun hsm => ?_)) <;> (try exact zx)) | ((with_reducible refine splitB.mk (fun h => ?_) (fun h => ?_)) <;> (try simp only [zs, ne_eq] at h) <;> (try simp (disch := omega) only [w64] at h) <;> (try exact zx)) | (with_reducible intro hz; (try exact absurd hz (Nat.succ_ne_zero _)))))
    · subst h
      simp at hg
      dsimp only
      rw [w64 (by omega)]
      refine ⟨?_⟩
      rw [← hg]
      congr 1
      split <;> omega
def s_abs : Spec := fun args S => match args, S with
  | [.int .i64 n], [] => ⟨-9223372036854775808 < n ∧ n < 9223372036854775808, .int .i64 (n.natAbs : Int), []⟩
  | _, _ => noSpec
theorem ok_l01Abs : SpecOk Try.prog 99 s_abs := by
  intro args S h; unfold s_abs at h ⊢; (split at h <;> first | exact False.elim h | skip)
  dsimp only at h ⊢
  refine funW tabOk (E := []) trivial [] (k := 0) (fn := Try.f99) rfl rfl rfl rfl rfl rfl ?_
  (repeat' ((try (conv => whnf)); first | (with_reducible first | refine And.intro ?_ ?_ | refine WX.of ?_) | exact zc | ((with_reducible refine VC.mk ?_); exact zw) | (with_reducible first | refine splitT ?_ | refine splitF ?_) | ((with_reducible refine splitM.mk (fun hsm => ?_) (fun hsm => ?_)) <;> (try exact zx)) | ((with_reducible refine splitB.mk (fun h => ?_) (fun h => ?_)) <;> (try simp only [zs, ne_eq] at h) <;> (try simp (disch := omega) only [w64] at h) <;> (try exact zx)) | (with_reducible intro hz; (try exact absurd hz (Nat.succ_ne_zero _)))))
def s_gcdN : Spec := fun args S => match args, S with
  | [.int .i64 a, .int .i64 b], [] => ⟨0 ≤ a ∧ a < 9223372036854775808 ∧ 0 ≤ b ∧ b < 9223372036854775808, .int .i64 (Int.gcd a b), []⟩
  | _, _ => noSpec
theorem ok_l01Gcd : SpecOk Try.prog 132 s_gcdN := by
  intro args S h; unfold s_gcdN at h ⊢; (split at h <;> first | exact False.elim h | skip)
  dsimp only at h ⊢
  rename_i a b
  refine funW tabOk (E := []) trivial [] (k := 0) (fn := Try.f132) rfl rfl rfl rfl rfl rfl ?_
  (repeat' ((try (conv => whnf)); first | (with_reducible first | refine And.intro ?_ ?_ | refine WX.of ?_) | exact zc | ((with_reducible refine VC.mk ?_); exact zw) | (with_reducible first | refine splitT ?_ | refine splitF ?_) | ((with_reducible refine splitM.mk (fun hsm => ?_) (fun hsm => ?_)) <;> (try exact zx)) | ((with_reducible refine splitB.mk (fun h => ?_) (fun h => ?_)) <;> (try simp only [zs, ne_eq] at h) <;> (try simp (disch := omega) only [w64] at h) <;> (try exact zx)) | (with_reducible intro hz; (try exact absurd hz (Nat.succ_ne_zero _)))))
  refine loopW tabOk (E := []) trivial [] (σ := Int × Int) (fun s => [(0, .int .i64 s.1), (1, .int .i64 s.2)]) (fun _ => []) (fun s => s.2.natAbs) (fun s => Int.gcd s.1 s.2 = Int.gcd a b ∧ 0 ≤ s.1 ∧ s.1 < 9223372036854775808 ∧ 0 ≤ s.2 ∧ s.2 < 9223372036854775808) (a, b) ⟨rfl, h⟩ ?_ ?_
  · (repeat' ((try (conv => whnf)); first | (with_reducible first | refine And.intro ?_ ?_ | refine WX.of ?_) | exact zc | ((with_reducible refine VC.mk ?_); exact zw) | (with_reducible first | refine splitT ?_ | refine splitF ?_) | ((with_reducible refine splitM.mk (fun hsm => ?_) (fun hsm => ?_)) <;> (try exact zx)) | ((with_reducible refine splitB.mk (fun h => ?_) (fun h => ?_)) <;> (try simp only [zs, ne_eq] at h) <;> (try simp (disch := omega) only [w64] at h) <;> (try exact zx)) | (with_reducible intro hz; (try exact absurd hz (Nat.succ_ne_zero _)))))
  · rintro ⟨x, y⟩ ⟨hg, hr⟩
    dsimp only at hg hr
    (repeat' ((try (conv => whnf)); first | (with_reducible first | refine And.intro ?_ ?_ | refine WX.of ?_) | exact zc | ((with_reducible refine VC.mk ?_); exact zw) | (with_reducible first | refine splitT ?_ | refine splitF ?_) | ((with_reducible refine splitM.mk (fun hsm => ?_) (fun hsm => ?_)) <;> (try exact zx)) | ((with_reducible refine splitB.mk (fun h => ?_) (fun h => ?_)) <;> (try simp only [zs, ne_eq] at h) <;> (try simp (disch := omega) only [w64] at h) <;> (try exact zx)) | (with_reducible intro hz; (try exact absurd hz (Nat.succ_ne_zero _)))))
    · have := tmod_lt (a := x) h
      have h2 := Int.tmod_nonneg y hr.1
      refine ⟨(y, x.tmod y), this, ⟨by rw [← hg]; exact gcd_tmod, ?_⟩, ?_⟩
      · dsimp only; omega
      · (repeat' ((try (conv => whnf)); first | (with_reducible first | refine And.intro ?_ ?_ | refine WX.of ?_) | exact zc | ((with_reducible refine VC.mk ?_); exact zw) | (with_reducible first | refine splitT ?_ | refine splitF ?_) | ((with_reducible refine splitM.mk (fun hsm => ?_) (fun hsm => ?_)) <;> (try exact zx)) | ((with_reducible refine splitB.mk (fun h => ?_) (fun h => ?_)) <;> (try simp only [zs, ne_eq] at h) <;> (try simp (disch := omega) only [w64] at h) <;> (try exact zx)) | (with_reducible intro hz; (try exact absurd hz (Nat.succ_ne_zero _)))))
    · subst h
      simp at hg
      refine ⟨?_⟩
      dsimp only
      rw [← hg]
      congr 1
      omega
/-- A valid fraction. -/
def fOk (p q : Int) : Bool := decide (1 ≤ q ∧ q ≤ 1000000000 ∧ -1000000000 ≤ p ∧ p ≤ 1000000000 ∧ Int.gcd p q = 1)
theorem fOk_iff {p q : Int} : fOk p q = true ↔ 1 ≤ q ∧ q ≤ 1000000000 ∧ -1000000000 ≤ p ∧ p ≤ 1000000000 ∧ Int.gcd p q = 1 := by simp [fOk]
def s_fOk : Spec := fun args S => match args, S with
  | [.agg [.int .i64 p, .int .i64 q]], [] => ⟨True, .bool (fOk p q), []⟩
  | _, _ => noSpec
theorem gcd_abs (p q : Int) : Int.gcd (p.natAbs : Int) q = Int.gcd p q := by simp [Int.gcd]
theorem ok_ValidFrac : SpecOk Try.prog 56 s_fOk := by
  intro args S h; unfold s_fOk at h ⊢; (split at h <;> first | exact False.elim h | skip)
  dsimp only at h ⊢
  refine funW tabOk (E := [(71, s_within), (106, s_gcd)]) ⟨ok_within, ok_gcd, trivial⟩ [] (k := 0) (fn := Try.f56) rfl rfl rfl rfl rfl rfl ?_
  (repeat' ((try (conv => whnf)); first | (with_reducible first | refine And.intro ?_ ?_ | refine WX.of ?_) | exact zc | ((with_reducible refine VC.mk ?_); exact zw) | (with_reducible first | refine splitT ?_ | refine splitF ?_) | ((with_reducible refine splitM.mk (fun hsm => ?_) (fun hsm => ?_)) <;> (try exact zx)) | ((with_reducible refine splitB.mk (fun h => ?_) (fun h => ?_)) <;> (try simp only [zs, ne_eq] at h) <;> (try simp (disch := omega) only [w64] at h) <;> (try exact zx)) | (with_reducible intro hz; (try exact absurd hz (Nat.succ_ne_zero _)))))
  all_goals (refine ⟨congrArg SV.bool ?_⟩; (try dsimp only); (try simp (disch := omega) only [w64]); rw [Bool.eq_iff_iff]; try (simp [fOk]); try omega)
theorem ok_l01Ok : SpecOk Try.prog 129 s_fOk := by
  intro args S h; unfold s_fOk at h ⊢; (split at h <;> first | exact False.elim h | skip)
  dsimp only at h ⊢
  refine funW tabOk (E := [(102, s_within), (132, s_gcdN), (99, s_abs)]) ⟨ok_l00In, ok_l01Gcd, ok_l01Abs, trivial⟩ [(1, [(13, 2)])] (k := 0) (fn := Try.f129) rfl rfl rfl rfl rfl rfl ?_
  (repeat' ((try (conv => whnf)); first | (with_reducible first | refine And.intro ?_ ?_ | refine WX.of ?_) | exact zc | ((with_reducible refine VC.mk ?_); exact zw) | (with_reducible first | refine splitT ?_ | refine splitF ?_) | ((with_reducible refine splitM.mk (fun hsm => ?_) (fun hsm => ?_)) <;> (try exact zx)) | ((with_reducible refine splitB.mk (fun h => ?_) (fun h => ?_)) <;> (try simp only [zs, ne_eq] at h) <;> (try simp (disch := omega) only [w64] at h) <;> (try exact zx)) | (with_reducible intro hz; (try exact absurd hz (Nat.succ_ne_zero _)))))
  all_goals (refine ⟨congrArg SV.bool ?_⟩; (try dsimp only); (try simp (disch := omega) only [w64]); rw [Bool.eq_iff_iff]; try (simp [fOk, gcd_abs]); try omega)
/-- The reduced fraction. -/
def redG (p q : Int) : Int := (Int.gcd p q : Int)
def redP (p q : Int) : Int := if q < 0 then -(p / redG p q) else p / redG p q
def redQ (p q : Int) : Int := if q < 0 then -(q / redG p q) else q / redG p q
def redOk (p q : Int) : Bool := fOk (redP p q) (redQ p q)
theorem redG_pos {p q : Int} (h : q ≠ 0) : 0 < redG p q := by
  unfold redG
  have : 0 < Int.gcd p q := Int.gcd_pos_of_ne_zero_right _ h
  omega
theorem redG_le {p q M : Int} (h : q ≠ 0) (hq : -M ≤ q ∧ q ≤ M) : redG p q ≤ M := by
  unfold redG
  have := Nat.le_of_dvd (by omega) (Nat.gcd_dvd_right p.natAbs q.natAbs)
  have e : Int.gcd p q = Nat.gcd p.natAbs q.natAbs := rfl
  omega
theorem ediv_small {p g M : Int} (hg : 0 < g) (h : -M ≤ p ∧ p ≤ M) : -M ≤ p / g ∧ p / g ≤ M := by
  have h0 : 0 ≤ M := by omega
  refine ⟨?_, ?_⟩
  · rw [Int.le_ediv_iff_mul_le hg]
    have : M ≤ M * g := by have := Int.mul_le_mul_of_nonneg_left (show 1 ≤ g by omega) h0; omega
    rw [Int.neg_mul]; omega
  · have := Int.ediv_le_ediv hg h.2
    have := Int.ediv_le_self g h0
    omega
theorem red_p {p q : Int} : p.tdiv (redG p q) = p / redG p q := Int.tdiv_eq_ediv_of_dvd (Int.gcd_dvd_left ..)
theorem red_q {p q : Int} : q.tdiv (redG p q) = q / redG p q := Int.tdiv_eq_ediv_of_dvd (Int.gcd_dvd_right ..)
theorem red_np {p q : Int} : (-p).tdiv (redG p q) = -(p / redG p q) := by rw [Int.neg_tdiv, red_p]
theorem red_nq {p q : Int} : (-q).tdiv (redG p q) = -(q / redG p q) := by rw [Int.neg_tdiv, red_q]
theorem red_bound {p q : Int} (h : q ≠ 0) (hp : -9223372036854775807 ≤ p ∧ p ≤ 9223372036854775807) (hq : -9223372036854775807 ≤ q ∧ q ≤ 9223372036854775807) :
    (-9223372036854775807 ≤ p / redG p q ∧ p / redG p q ≤ 9223372036854775807) ∧ (-9223372036854775807 ≤ q / redG p q ∧ q / redG p q ≤ 9223372036854775807) :=
  ⟨ediv_small (redG_pos h) hp, ediv_small (redG_pos h) hq⟩
/-- The sign of the reduced denominator. -/
theorem red_sign {p q : Int} (h : q ≠ 0) : (q / redG p q < 0 ↔ q < 0) := by
  have hg := redG_pos (p := p) h
  constructor
  · intro h1
    have := Int.ediv_mul_cancel (a := q) (b := redG p q) (Int.gcd_dvd_right ..)
    have h2 : q / redG p q * redG p q < 0 := Int.mul_neg_of_neg_of_pos h1 hg
    omega
  · intro h1
    have := Int.ediv_mul_cancel (a := q) (b := redG p q) (Int.gcd_dvd_right ..)
    apply Classical.byContradiction; intro h2
    have h3 : 0 ≤ q / redG p q * redG p q := Int.mul_nonneg (by omega) (by omega)
    omega
def s_red : Spec := fun args S => match args, S with
  | [.int .i64 p, .int .i64 q], [] => ⟨q ≠ 0 ∧ (-9223372036854775807 ≤ p ∧ p ≤ 9223372036854775807) ∧ (-9223372036854775807 ≤ q ∧ q ≤ 9223372036854775807), .tup [.agg [.int .i64 (if redOk p q = true then redP p q else 0), .int .i64 (if redOk p q = true then redQ p q else 0)], .int .i64 (if redOk p q = true then 0 else 3)], []⟩
  | _, _ => noSpec
theorem ok_l01Reduced : SpecOk Try.prog 116 s_red := by
  intro args S h; unfold s_red at h ⊢; (split at h <;> first | exact False.elim h | skip)
  dsimp only at h ⊢
  rename_i p q
  obtain ⟨h0, hp, hq⟩ := h
  have hg := redG_pos (p := p) h0
  have hgl := redG_le (p := p) h0 hq
  have hb := red_bound h0 hp hq
  have hs := red_sign (p := p) h0
  have e : (Int.gcd (p.natAbs : Int) (q.natAbs : Int) : Int) = redG p q := by simp [Int.gcd, redG]
  refine funW tabOk (E := [(129, s_fOk), (132, s_gcdN), (99, s_abs)]) ⟨ok_l01Ok, ok_l01Gcd, ok_l01Abs, trivial⟩ [] (k := 0) (fn := Try.f116) rfl rfl rfl rfl rfl rfl ?_
  (repeat' ((try (conv => whnf)); first | (with_reducible first | refine And.intro ?_ ?_ | refine WX.of ?_) | exact zc | ((with_reducible refine VC.mk ?_); exact zw) | (with_reducible first | refine splitT ?_ | refine splitF ?_) | ((with_reducible refine splitM.mk (fun hsm => ?_) (fun hsm => ?_)) <;> (try exact zx)) | ((with_reducible refine splitB.mk (fun h => ?_) (fun h => ?_)) <;> (try simp only [zs, ne_eq] at h) <;> (try simp (disch := omega) only [w64] at h) <;> (try exact zx)) | (with_reducible intro hz; (try exact absurd hz (Nat.succ_ne_zero _)))))
  all_goals
    rename_i hq'
    simp (disch := omega) only [e, red_p, red_q, w64, Int.zero_sub] at h hq' ⊢
    first | rw [hs] at hq' | (rw [← Int.not_lt, hs] at hq')
    refine ⟨?_⟩
    simp [redOk, redP, redQ, h, hq']
/-- What fracOf answers. -/
def s_fracOf : Spec := fun args S => match args, S with
  | [.int .i64 p, .int .i64 q], [] => ⟨q ≠ 0 ∧ (-9223372036854775807 ≤ p ∧ p ≤ 9223372036854775807) ∧ (-9223372036854775807 ≤ q ∧ q ≤ 9223372036854775807), .tup [.agg [.int .i64 (if redOk p q = true then redP p q else 0), .int .i64 (if redOk p q = true then redQ p q else 0)], .bool (redOk p q)], []⟩
  | _, _ => noSpec
theorem redG_neg (p q : Int) : (Int.gcd (-p) (-q) : Int) = redG p q := by simp [redG]
theorem ok_fracOf : SpecOk Try.prog 121 s_fracOf := by
  intro args S h; unfold s_fracOf at h ⊢; (split at h <;> first | exact False.elim h | skip)
  dsimp only at h ⊢
  rename_i p q
  obtain ⟨h0, hp, hq⟩ := h
  have hg := redG_pos (p := p) h0
  have hgl := redG_le (p := p) h0 hq
  have hb := red_bound h0 hp hq
  have hs := red_sign (p := p) h0
  have e : (Int.gcd p q : Int) = redG p q := rfl
  have e2 := redG_neg p q
  refine funW tabOk (E := [(56, s_fOk), (106, s_gcd)]) ⟨ok_ValidFrac, ok_gcd, trivial⟩ [] (k := 0) (fn := Try.f121) rfl rfl rfl rfl rfl rfl ?_
  (repeat' ((try (conv => whnf)); first | (with_reducible first | refine And.intro ?_ ?_ | refine WX.of ?_) | exact zc | ((with_reducible refine VC.mk ?_); exact zw) | ((with_reducible refine VC.mk ?_); simp (disch := omega) only [w64, Int.zero_sub, e, e2]; omega) | (with_reducible first | refine splitT ?_ | refine splitF ?_) | ((with_reducible refine splitM.mk (fun hsm => ?_) (fun hsm => ?_)) <;> (try exact zx)) | ((with_reducible refine splitB.mk (fun h => ?_) (fun h => ?_)) <;> (try simp only [zs, ne_eq] at h) <;> (try simp (disch := omega) only [w64] at h) <;> (try exact zx)) | (with_reducible intro hz; (try exact absurd hz (Nat.succ_ne_zero _)))))
  all_goals
    rename_i hq'
    simp (disch := omega) only [e, e2, red_p, red_q, red_np, red_nq, w64, Int.zero_sub] at h ⊢
    refine ⟨?_⟩
    first | (simp [redOk, redP, redQ, h, hq']; done) | simp [redOk, redP, redQ, h, show ¬ q < 0 by omega]
/-- What told answers: 0 where it is no valid fraction. -/
def tolP (p q : Int) : Int := if redOk p q = true then redP p q else 0
def tolQ (p q : Int) : Int := if redOk p q = true then redQ p q else 1
def s_told : Spec := fun args S => match args, S with
  | [.ptr b 0 0, .int .i64 p, .int .i64 q], [.arr .bool [bad] 0 true] => ⟨b = 0 ∧ q ≠ 0 ∧ (-9223372036854775807 ≤ p ∧ p ≤ 9223372036854775807) ∧ (-9223372036854775807 ≤ q ∧ q ≤ 9223372036854775807), .agg [.int .i64 (tolP p q), .int .i64 (tolQ p q)], [.arr .bool [bad || !redOk p q] 0 true]⟩
  | _, _ => noSpec
def s_zero : Spec := fun args S => match args, S with
  | [], [] => ⟨True, .agg [.int .i64 0, .int .i64 1], []⟩
  | _, _ => noSpec
theorem ok_zero : SpecOk Try.prog 91 s_zero := by
  intro args S h; unfold s_zero at h ⊢; (split at h <;> first | exact False.elim h | skip)
  dsimp only at h ⊢
  refine funW tabOk (E := []) trivial [] (k := 0) (fn := Try.f91) rfl rfl rfl rfl rfl rfl ?_
  (repeat' ((try (conv => whnf)); first | (with_reducible first | refine And.intro ?_ ?_ | refine WX.of ?_) | exact zc | ((with_reducible refine VC.mk ?_); exact zw) | (with_reducible first | refine splitT ?_ | refine splitF ?_) | ((with_reducible refine splitM.mk (fun hsm => ?_) (fun hsm => ?_)) <;> (try exact zx)) | ((with_reducible refine splitB.mk (fun h => ?_) (fun h => ?_)) <;> (try simp only [zs, ne_eq] at h) <;> (try simp (disch := omega) only [w64] at h) <;> (try exact zx)) | (with_reducible intro hz; (try exact absurd hz (Nat.succ_ne_zero _)))))
theorem ok_told : SpecOk Try.prog 94 s_told := by
  intro args S h; unfold s_told at h ⊢; (split at h <;> first | exact False.elim h | skip)
  dsimp only at h ⊢
  rename_i b p q bad
  obtain ⟨rfl, h0, hp, hq⟩ := h
  refine funW tabOk (E := [(121, s_fracOf), (91, s_zero)]) ⟨ok_fracOf, ok_zero, trivial⟩ [] (k := 1) (fn := Try.f94) rfl rfl rfl rfl rfl rfl ?_
  (repeat' ((try (conv => whnf)); first | (with_reducible first | refine And.intro ?_ ?_ | refine WX.of ?_) | exact zc | ((with_reducible refine VC.mk ?_); exact zw) | (with_reducible first | refine splitT ?_ | refine splitF ?_) | ((with_reducible refine splitM.mk (fun hsm => ?_) (fun hsm => ?_)) <;> (try exact zx)) | ((with_reducible refine splitB.mk (fun h => ?_) (fun h => ?_)) <;> (try simp only [zs, ne_eq] at h) <;> (try simp (disch := omega) only [w64] at h) <;> (try exact zx)) | (with_reducible intro hz; (try exact absurd hz (Nat.succ_ne_zero _)))))
  all_goals (refine ⟨?_⟩; simp [tolP, tolQ, h])
theorem mulB {a b : Int} (ha : -1000000000 ≤ a ∧ a ≤ 1000000000) (hb : -1000000000 ≤ b ∧ b ≤ 1000000000) : -1000000000000000000 ≤ a * b ∧ a * b ≤ 1000000000000000000 := by
  have h1 : a.natAbs ≤ 1000000000 := by omega
  have h2 : b.natAbs ≤ 1000000000 := by omega
  have h3 := Nat.mul_le_mul h1 h2
  rw [← Int.natAbs_mul] at h3
  omega
theorem mulPos {a b : Int} (ha : 1 ≤ a) (hb : 1 ≤ b) : 1 ≤ a * b := by
  have := Int.mul_le_mul ha hb (by omega) (by omega)
  omega
/-- The parts of a fraction within bounds. -/
def smF (p q : Int) : Prop := (-1000000000 ≤ p ∧ p ≤ 1000000000) ∧ 1 ≤ q ∧ q ≤ 1000000000
theorem smF_ok {p q : Int} (h : fOk p q = true) : smF p q := by
  rw [fOk_iff] at h; unfold smF; omega
theorem smF_1 {n : Int} (h : -1000000000 ≤ n ∧ n ≤ 1000000000) : smF n 1 := by unfold smF; omega
def s_add : Spec := fun args S => match args, S with
  | [.ptr b 0 0, .agg [.int .i64 p, .int .i64 q], .agg [.int .i64 p', .int .i64 q']], [.arr .bool [bad] 0 true] => ⟨b = 0 ∧ smF p q ∧ smF p' q', .agg [.int .i64 (tolP (p * q' + p' * q) (q * q')), .int .i64 (tolQ (p * q' + p' * q) (q * q'))], [.arr .bool [bad || !redOk (p * q' + p' * q) (q * q')] 0 true]⟩
  | _, _ => noSpec
def s_sub : Spec := fun args S => match args, S with
  | [.ptr b 0 0, .agg [.int .i64 p, .int .i64 q], .agg [.int .i64 p', .int .i64 q']], [.arr .bool [bad] 0 true] => ⟨b = 0 ∧ smF p q ∧ smF p' q', .agg [.int .i64 (tolP (p * q' - p' * q) (q * q')), .int .i64 (tolQ (p * q' - p' * q) (q * q'))], [.arr .bool [bad || !redOk (p * q' - p' * q) (q * q')] 0 true]⟩
  | _, _ => noSpec
def s_mul : Spec := fun args S => match args, S with
  | [.ptr b 0 0, .agg [.int .i64 p, .int .i64 q], .agg [.int .i64 p', .int .i64 q']], [.arr .bool [bad] 0 true] => ⟨b = 0 ∧ smF p q ∧ smF p' q', .agg [.int .i64 (tolP (p * p') (q * q')), .int .i64 (tolQ (p * p') (q * q'))], [.arr .bool [bad || !redOk (p * p') (q * q')] 0 true]⟩
  | _, _ => noSpec
theorem smF_mul {p q p' q' : Int} (h : smF p q) (h' : smF p' q') :
    (-1000000000000000000 ≤ p * q' ∧ p * q' ≤ 1000000000000000000) ∧ (-1000000000000000000 ≤ p' * q ∧ p' * q ≤ 1000000000000000000) ∧ (-1000000000000000000 ≤ q * p' ∧ q * p' ≤ 1000000000000000000) ∧ (-1000000000000000000 ≤ p * p' ∧ p * p' ≤ 1000000000000000000) ∧ (1 ≤ q * q' ∧ q * q' ≤ 1000000000000000000) := by
  unfold smF at h h'
  exact ⟨mulB h.1 ⟨by omega, by omega⟩, mulB h'.1 ⟨by omega, by omega⟩, mulB ⟨by omega, by omega⟩ h'.1, mulB h.1 h'.1, mulPos h.2.1 h'.2.1, (mulB ⟨by omega, by omega⟩ ⟨by omega, by omega⟩).2⟩
theorem ok_add : SpecOk Try.prog 93 s_add := by
  intro args S h; unfold s_add at h ⊢; (split at h <;> first | exact False.elim h | skip)
  dsimp only at h ⊢
  rename_i b p q p' q' bad
  obtain ⟨rfl, h1, h2⟩ := h
  have hm := smF_mul h1 h2
  refine funW tabOk (E := [(94, s_told)]) ⟨ok_told, trivial⟩ [] (k := 1) (fn := Try.f93) rfl rfl rfl rfl rfl rfl ?_
  (repeat' ((try (conv => whnf)); first | (with_reducible first | refine And.intro ?_ ?_ | refine WX.of ?_) | exact zc | ((with_reducible refine VC.mk ?_); exact zw) | ((with_reducible refine VC.mk ?_); simp (disch := omega) only [w64]; first  |  done  |  omega  |  (refine ⟨?_, ?_, ?_⟩ <;> first  |  trivial  |  omega)) | (with_reducible first | refine splitT ?_ | refine splitF ?_) | ((with_reducible refine splitM.mk (fun hsm => ?_) (fun hsm => ?_)) <;> (try exact zx)) | ((with_reducible refine splitB.mk (fun h => ?_) (fun h => ?_)) <;> (try simp only [zs, ne_eq] at h) <;> (try simp (disch := omega) only [w64] at h) <;> (try exact zx)) | (with_reducible intro hz; (try exact absurd hz (Nat.succ_ne_zero _)))))
theorem ok_sub : SpecOk Try.prog 54 s_sub := by
  intro args S h; unfold s_sub at h ⊢; (split at h <;> first | exact False.elim h | skip)
  dsimp only at h ⊢
  rename_i b p q p' q' bad
  obtain ⟨rfl, h1, h2⟩ := h
  have hm := smF_mul h1 h2
  refine funW tabOk (E := [(94, s_told)]) ⟨ok_told, trivial⟩ [] (k := 1) (fn := Try.f54) rfl rfl rfl rfl rfl rfl ?_
  (repeat' ((try (conv => whnf)); first | (with_reducible first | refine And.intro ?_ ?_ | refine WX.of ?_) | exact zc | ((with_reducible refine VC.mk ?_); exact zw) | ((with_reducible refine VC.mk ?_); simp (disch := omega) only [w64]; first  |  done  |  omega  |  (refine ⟨?_, ?_, ?_⟩ <;> first  |  trivial  |  omega)) | (with_reducible first | refine splitT ?_ | refine splitF ?_) | ((with_reducible refine splitM.mk (fun hsm => ?_) (fun hsm => ?_)) <;> (try exact zx)) | ((with_reducible refine splitB.mk (fun h => ?_) (fun h => ?_)) <;> (try simp only [zs, ne_eq] at h) <;> (try simp (disch := omega) only [w64] at h) <;> (try exact zx)) | (with_reducible intro hz; (try exact absurd hz (Nat.succ_ne_zero _)))))
theorem ok_mul : SpecOk Try.prog 47 s_mul := by
  intro args S h; unfold s_mul at h ⊢; (split at h <;> first | exact False.elim h | skip)
  dsimp only at h ⊢
  rename_i b p q p' q' bad
  obtain ⟨rfl, h1, h2⟩ := h
  have hm := smF_mul h1 h2
  refine funW tabOk (E := [(94, s_told)]) ⟨ok_told, trivial⟩ [] (k := 1) (fn := Try.f47) rfl rfl rfl rfl rfl rfl ?_
  (repeat' ((try (conv => whnf)); first | (with_reducible first | refine And.intro ?_ ?_ | refine WX.of ?_) | exact zc | ((with_reducible refine VC.mk ?_); exact zw) | ((with_reducible refine VC.mk ?_); simp (disch := omega) only [w64]; first  |  done  |  omega  |  (refine ⟨?_, ?_, ?_⟩ <;> first  |  trivial  |  omega)) | (with_reducible first | refine splitT ?_ | refine splitF ?_) | ((with_reducible refine splitM.mk (fun hsm => ?_) (fun hsm => ?_)) <;> (try exact zx)) | ((with_reducible refine splitB.mk (fun h => ?_) (fun h => ?_)) <;> (try simp only [zs, ne_eq] at h) <;> (try simp (disch := omega) only [w64] at h) <;> (try exact zx)) | (with_reducible intro hz; (try exact absurd hz (Nat.succ_ne_zero _)))))
def s_num : Spec := fun args S => match args, S with
  | [.int .i64 n], [] => ⟨True, .agg [.int .i64 n, .int .i64 1], []⟩
  | _, _ => noSpec
theorem ok_num : SpecOk Try.prog 48 s_num := by
  intro args S h; unfold s_num at h ⊢; (split at h <;> first | exact False.elim h | skip)
  dsimp only at h ⊢
  refine funW tabOk (E := []) trivial [] (k := 0) (fn := Try.f48) rfl rfl rfl rfl rfl rfl ?_
  (repeat' ((try (conv => whnf)); first | (with_reducible first | refine And.intro ?_ ?_ | refine WX.of ?_) | exact zc | ((with_reducible refine VC.mk ?_); exact zw) | (with_reducible first | refine splitT ?_ | refine splitF ?_) | ((with_reducible refine splitM.mk (fun hsm => ?_) (fun hsm => ?_)) <;> (try exact zx)) | ((with_reducible refine splitB.mk (fun h => ?_) (fun h => ?_)) <;> (try simp only [zs, ne_eq] at h) <;> (try simp (disch := omega) only [w64] at h) <;> (try exact zx)) | (with_reducible intro hz; (try exact absurd hz (Nat.succ_ne_zero _)))))
theorem ok_l01Whole : SpecOk Try.prog 80 s_num := by
  intro args S h; unfold s_num at h ⊢; (split at h <;> first | exact False.elim h | skip)
  dsimp only at h ⊢
  refine funW tabOk (E := []) trivial [] (k := 0) (fn := Try.f80) rfl rfl rfl rfl rfl rfl ?_
  (repeat' ((try (conv => whnf)); first | (with_reducible first | refine And.intro ?_ ?_ | refine WX.of ?_) | exact zc | ((with_reducible refine VC.mk ?_); exact zw) | (with_reducible first | refine splitT ?_ | refine splitF ?_) | ((with_reducible refine splitM.mk (fun hsm => ?_) (fun hsm => ?_)) <;> (try exact zx)) | ((with_reducible refine splitB.mk (fun h => ?_) (fun h => ?_)) <;> (try simp only [zs, ne_eq] at h) <;> (try simp (disch := omega) only [w64] at h) <;> (try exact zx)) | (with_reducible intro hz; (try exact absurd hz (Nat.succ_ne_zero _)))))
/-- What l01Reduced answers. -/
def rdP (p q : Int) : Int := if redOk p q = true then redP p q else 0
def rdQ (p q : Int) : Int := if redOk p q = true then redQ p q else 0
def rdC (p q : Int) : Int := if redOk p q = true then 0 else 3
def s_addS : Spec := fun args S => match args, S with
  | [.agg [.int .i64 p, .int .i64 q], .agg [.int .i64 p', .int .i64 q']], [] => ⟨smF p q ∧ smF p' q', .tup [.agg [.int .i64 (rdP (p * q' + p' * q) (q * q')), .int .i64 (rdQ (p * q' + p' * q) (q * q'))], .int .i64 (rdC (p * q' + p' * q) (q * q'))], []⟩
  | _, _ => noSpec
def s_mulS : Spec := fun args S => match args, S with
  | [.agg [.int .i64 p, .int .i64 q], .agg [.int .i64 p', .int .i64 q']], [] => ⟨smF p q ∧ smF p' q', .tup [.agg [.int .i64 (rdP (p * p') (q * q')), .int .i64 (rdQ (p * p') (q * q'))], .int .i64 (rdC (p * p') (q * q'))], []⟩
  | _, _ => noSpec
theorem ok_l01Add : SpecOk Try.prog 115 s_addS := by
  intro args S h; unfold s_addS at h ⊢; (split at h <;> first | exact False.elim h | skip)
  dsimp only at h ⊢
  rename_i p q p' q'
  have hm := smF_mul h.1 h.2
  refine funW tabOk (E := [(116, s_red)]) ⟨ok_l01Reduced, trivial⟩ [] (k := 0) (fn := Try.f115) rfl rfl rfl rfl rfl rfl ?_
  (repeat' ((try (conv => whnf)); first | (with_reducible first | refine And.intro ?_ ?_ | refine WX.of ?_) | exact zc | ((with_reducible refine VC.mk ?_); exact zw) | ((with_reducible refine VC.mk ?_); simp (disch := omega) only [w64]; first  |  done  |  omega  |  (refine ⟨?_, ?_, ?_⟩ <;> first  |  trivial  |  omega)) | (with_reducible first | refine splitT ?_ | refine splitF ?_) | ((with_reducible refine splitM.mk (fun hsm => ?_) (fun hsm => ?_)) <;> (try exact zx)) | ((with_reducible refine splitB.mk (fun h => ?_) (fun h => ?_)) <;> (try simp only [zs, ne_eq] at h) <;> (try simp (disch := omega) only [w64] at h) <;> (try exact zx)) | (with_reducible intro hz; (try exact absurd hz (Nat.succ_ne_zero _)))))
  all_goals (refine ⟨?_⟩; simp (disch := omega) only [w64]; rfl)
theorem ok_l01Mul : SpecOk Try.prog 123 s_mulS := by
  intro args S h; unfold s_mulS at h ⊢; (split at h <;> first | exact False.elim h | skip)
  dsimp only at h ⊢
  rename_i p q p' q'
  have hm := smF_mul h.1 h.2
  refine funW tabOk (E := [(116, s_red)]) ⟨ok_l01Reduced, trivial⟩ [] (k := 0) (fn := Try.f123) rfl rfl rfl rfl rfl rfl ?_
  (repeat' ((try (conv => whnf)); first | (with_reducible first | refine And.intro ?_ ?_ | refine WX.of ?_) | exact zc | ((with_reducible refine VC.mk ?_); exact zw) | ((with_reducible refine VC.mk ?_); simp (disch := omega) only [w64]; first  |  done  |  omega  |  (refine ⟨?_, ?_, ?_⟩ <;> first  |  trivial  |  omega)) | (with_reducible first | refine splitT ?_ | refine splitF ?_) | ((with_reducible refine splitM.mk (fun hsm => ?_) (fun hsm => ?_)) <;> (try exact zx)) | ((with_reducible refine splitB.mk (fun h => ?_) (fun h => ?_)) <;> (try simp only [zs, ne_eq] at h) <;> (try simp (disch := omega) only [w64] at h) <;> (try exact zx)) | (with_reducible intro hz; (try exact absurd hz (Nat.succ_ne_zero _)))))
  all_goals (refine ⟨?_⟩; simp (disch := omega) only [w64]; rfl)
end Go.Proofs.Ytnmpgofhdjcpaaa.Eng
set_option linter.unusedVariables false
set_option linter.unusedSimpArgs false
namespace Go.Proofs.Ytnmpgofhdjcpaaa.Eng
open Go Go.RowKit
set_option maxRecDepth 100000
end Go.Proofs.Ytnmpgofhdjcpaaa.Eng
set_option linter.unusedVariables false
set_option linter.unusedSimpArgs false
namespace Go.Proofs.Ytnmpgofhdjcpaaa.Eng
open Go Go.RowKit
set_option maxRecDepth 100000
def s_nfOk : Spec := fun args S => match args, S with
  | [.agg [.int .i64 p, .int .i64 q]], [] => ⟨True, .bool (!fOk p q), []⟩
  | _, _ => noSpec
theorem ok_areValid1 : SpecOk Try.prog 127 s_nfOk := by
  intro args S h; unfold s_nfOk at h ⊢; (split at h <;> first | exact False.elim h | skip)
  dsimp only at h ⊢
  refine funW tabOk (E := [(56, s_fOk)]) ⟨ok_ValidFrac, trivial⟩ [] (k := 0) (fn := Try.f127) rfl rfl rfl rfl rfl rfl ?_
  (repeat' ((try (conv => whnf)); first | (with_reducible first | refine And.intro ?_ ?_ | refine WX.of ?_) | exact zc | ((with_reducible refine VC.mk ?_); exact zw) | (with_reducible first | refine splitT ?_ | refine splitF ?_) | ((with_reducible refine splitM.mk (fun hsm => ?_) (fun hsm => ?_)) <;> (try exact zx)) | ((with_reducible refine splitB.mk (fun h => ?_) (fun h => ?_)) <;> (try simp only [zs, ne_eq] at h) <;> (try simp (disch := omega) only [w64] at h) <;> (try exact zx)) | (with_reducible intro hz; (try exact absurd hz (Nat.succ_ne_zero _)))))
def nfOk (a : Int × Int) : Bool := !fOk a.1 a.2
def s_idxF (g : Nat) : Spec := fun args S => match args, S with
  | [.sl 0 s n x, .fn g' []], [.arr (.prod (.int .i64) (.int .i64)) l 2 wr] => ⟨g' = g ∧ s + n ≤ l.length ∧ n ≤ 4611686018427387904, .int .i64 (findI nfOk (seg l s n)), [.arr (.prod (.int .i64) (.int .i64)) l 2 wr]⟩
  | _, _ => noSpec
theorem ok_idxF : SpecOk Try.prog 135 (s_idxF 127) := by
  intro args S h; unfold s_idxF at h ⊢; (split at h <;> first | exact False.elim h | skip)
  dsimp only at h ⊢
  rename_i s n x g l wr
  obtain ⟨rfl, h1, h2⟩ := h
  have hL := seg_len h1
  refine funW tabOk (E := [(127, s_nfOk)]) ⟨ok_areValid1, trivial⟩ [] (k := 1) (fn := Try.f135) rfl rfl rfl rfl rfl rfl ?_
  (repeat' ((try (conv => whnf)); first | (with_reducible first | refine And.intro ?_ ?_ | refine WX.of ?_) | exact zc | ((with_reducible refine VC.mk ?_); exact zw) | (with_reducible first | refine splitT ?_ | refine splitF ?_) | ((with_reducible refine splitM.mk (fun hsm => ?_) (fun hsm => ?_)) <;> (try exact zx)) | ((with_reducible refine splitB.mk (fun h => ?_) (fun h => ?_)) <;> (try simp only [zs, ne_eq] at h) <;> (try simp (disch := omega) only [w64] at h) <;> (try exact zx)) | (with_reducible intro hz; (try exact absurd hz (Nat.succ_ne_zero _)))))
  refine loopW tabOk (E := [(127, s_nfOk)]) ⟨ok_areValid1, trivial⟩ [] (σ := Nat) (fun i => [(0, .sl 0 s n x), (1, .fn 127 []), (7, .int .i64 n), (8, .int .i64 i)]) (fun i => [.arr (.prod (.int .i64) (.int .i64)) l 2 wr]) (fun i => n - i) (fun i => i ≤ n ∧ ∀ (j : Nat) a, j < i → (seg l s n)[j]? = some a → nfOk a = false) 0 ⟨Nat.zero_le _, fun j a hj => by omega⟩ ?_ ?_
  · (repeat' ((try (conv => whnf)); first | (with_reducible first | refine And.intro ?_ ?_ | refine WX.of ?_) | exact zc | ((with_reducible refine VC.mk ?_); exact zw) | (with_reducible first | refine splitT ?_ | refine splitF ?_) | ((with_reducible refine splitM.mk (fun hsm => ?_) (fun hsm => ?_)) <;> (try exact zx)) | ((with_reducible refine splitB.mk (fun h => ?_) (fun h => ?_)) <;> (try simp only [zs, ne_eq] at h) <;> (try simp (disch := omega) only [w64] at h) <;> (try exact zx)) | (with_reducible intro hz; (try exact absurd hz (Nat.succ_ne_zero _)))))
  · intro i ⟨hi, hp⟩
    by_cases hlt : i < n
    · obtain ⟨a, ha⟩ := get_some (l := seg l s n) (i := i) (by omega)
      (repeat' ((try (conv => whnf)); first | (with_reducible first | refine And.intro ?_ ?_ | refine WX.of ?_) | exact zc | ((with_reducible refine VC.mk ?_); exact zw) | refine atL_i ha ?_ | (with_reducible first | refine splitT ?_ | refine splitF ?_) | ((with_reducible refine splitM.mk (fun hsm => ?_) (fun hsm => ?_)) <;> (try exact zx)) | ((with_reducible refine splitB.mk (fun h => ?_) (fun h => ?_)) <;> (try simp only [zs, ne_eq] at h) <;> (try simp (disch := omega) only [w64] at h) <;> (try exact zx)) | (with_reducible intro hz; (try exact absurd hz (Nat.succ_ne_zero _)))))
      · exact ⟨by rw [findI_some ha (by simpa [nfOk] using h) hp]⟩
      · refine ⟨i + 1, by omega, ⟨hlt, upto_step ha (by simpa [nfOk] using h) hp⟩, ?_⟩
        (repeat' ((try (conv => whnf)); first | (with_reducible first | refine And.intro ?_ ?_ | refine WX.of ?_) | exact zc | ((with_reducible refine VC.mk ?_); exact zw) | (with_reducible first | refine splitT ?_ | refine splitF ?_) | ((with_reducible refine splitM.mk (fun hsm => ?_) (fun hsm => ?_)) <;> (try exact zx)) | ((with_reducible refine splitB.mk (fun h => ?_) (fun h => ?_)) <;> (try simp only [zs, ne_eq] at h) <;> (try simp (disch := omega) only [w64] at h) <;> (try exact zx)) | (with_reducible intro hz; (try exact absurd hz (Nat.succ_ne_zero _)))))
    · (repeat' ((try (conv => whnf)); first | (with_reducible first | refine And.intro ?_ ?_ | refine WX.of ?_) | exact zc | ((with_reducible refine VC.mk ?_); exact zw) | (with_reducible first | refine splitT ?_ | refine splitF ?_) | ((with_reducible refine splitM.mk (fun hsm => ?_) (fun hsm => ?_)) <;> (try exact zx)) | ((with_reducible refine splitB.mk (fun h => ?_) (fun h => ?_)) <;> (try simp only [zs, ne_eq] at h) <;> (try simp (disch := omega) only [w64] at h) <;> (try exact zx)) | (with_reducible intro hz; (try exact absurd hz (Nat.succ_ne_zero _)))))
      exact ⟨by rw [findI_none fun j a hj => hp j a (by have := (List.getElem?_eq_some_iff.1 hj).1; omega) hj]⟩
def s_anyF (g : Nat) : Spec := fun args S => match args, S with
  | [.sl 0 s n x, .fn g' []], [.arr (.prod (.int .i64) (.int .i64)) l 2 wr] => ⟨g' = g ∧ s + n ≤ l.length ∧ n ≤ 4611686018427387904, .bool ((seg l s n).any nfOk), [.arr (.prod (.int .i64) (.int .i64)) l 2 wr]⟩
  | _, _ => noSpec
theorem ok_anyF : SpecOk Try.prog 126 (s_anyF 127) := by
  intro args S h; unfold s_anyF at h ⊢; (split at h <;> first | exact False.elim h | skip)
  dsimp only at h ⊢
  rename_i s n x g l wr
  obtain ⟨rfl, h1, h2⟩ := h
  refine funW tabOk (E := [(135, (s_idxF 127))]) ⟨ok_idxF, trivial⟩ [] (k := 1) (fn := Try.f126) rfl rfl rfl rfl rfl rfl ?_
  (repeat' ((try (conv => whnf)); first | (with_reducible first | refine And.intro ?_ ?_ | refine WX.of ?_) | exact zc | ((with_reducible refine VC.mk ?_); exact zw) | (with_reducible first | refine splitT ?_ | refine splitF ?_) | ((with_reducible refine splitM.mk (fun hsm => ?_) (fun hsm => ?_)) <;> (try exact zx)) | ((with_reducible refine splitB.mk (fun h => ?_) (fun h => ?_)) <;> (try simp only [zs, ne_eq] at h) <;> (try simp (disch := omega) only [w64] at h) <;> (try exact zx)) | (with_reducible intro hz; (try exact absurd hz (Nat.succ_ne_zero _)))))
  exact ⟨by rw [findI_any]⟩
/-- Valid fractions. -/
def allF (L : List (Int × Int)) : Bool := L.all fun a => fOk a.1 a.2
def s_allF : Spec := fun args S => match args, S with
  | [.sl 0 s n x], [.arr (.prod (.int .i64) (.int .i64)) l 2 wr] => ⟨s + n ≤ l.length ∧ n ≤ 4611686018427387904, .bool (allF (seg l s n)), [.arr (.prod (.int .i64) (.int .i64)) l 2 wr]⟩
  | _, _ => noSpec
theorem ok_areValid : SpecOk Try.prog 105 s_allF := by
  intro args S h; unfold s_allF at h ⊢; (split at h <;> first | exact False.elim h | skip)
  dsimp only at h ⊢
  refine funW tabOk (E := [(126, (s_anyF 127))]) ⟨ok_anyF, trivial⟩ [] (k := 1) (fn := Try.f105) rfl rfl rfl rfl rfl rfl ?_
  (repeat' ((try (conv => whnf)); first | (with_reducible first | refine And.intro ?_ ?_ | refine WX.of ?_) | exact zc | ((with_reducible refine VC.mk ?_); exact zw) | (with_reducible first | refine splitT ?_ | refine splitF ?_) | ((with_reducible refine splitM.mk (fun hsm => ?_) (fun hsm => ?_)) <;> (try exact zx)) | ((with_reducible refine splitB.mk (fun h => ?_) (fun h => ?_)) <;> (try simp only [zs, ne_eq] at h) <;> (try simp (disch := omega) only [w64] at h) <;> (try exact zx)) | (with_reducible intro hz; (try exact absurd hz (Nat.succ_ne_zero _)))))
  all_goals (refine ⟨?_⟩; unfold allF; rw [List.all_eq_not_any_not]; rfl)
/-- A habit's bounds. -/
def guB (b u : Int) : Bool := decide ((-50 ≤ b ∧ b ≤ 50) ∧ 1 ≤ u ∧ u ≤ 20)
/-- What a habit reads of a value. -/
def rdN (b u : Int) (up : Bool) (p q : Int) : Int :=
  if up = true then u * ((2 * (p + b * q) + u * q) / (2 * (u * q))) else -u * ((u * q - 2 * (p + b * q)) / (2 * (u * q)))
/-- A name of 1 to 12 letters. -/
def letB (c : UInt8) : Bool := decide (97 ≤ c.toNat ∧ c.toNat ≤ 122)
def wordB (s : List UInt8) : Bool := decide (1 ≤ s.length ∧ s.length ≤ 12) && s.all letB
def s_word : Spec := fun args S => match args, S with
  | [.str s], [] => ⟨s.length ≤ 9223372036854775807, .bool (wordB s), []⟩
  | _, _ => noSpec
theorem word_no {s : List UInt8} {i : Nat} {c : UInt8} (h : s[i]? = some c) (hc : letB c = false) : wordB s = false := by
  unfold wordB
  have : s.all letB = false := by
    rw [List.all_eq_false]
    exact ⟨c, List.mem_of_getElem? h, by simp [hc]⟩
  rw [this]; simp
theorem word_all {s : List UInt8} (h : ∀ (j : Nat) c, s[j]? = some c → letB c = true) : s.all letB = true := by
  rw [List.all_eq_true]
  intro c hc
  obtain ⟨j, hj⟩ := List.getElem?_of_mem hc
  exact h j c hj
theorem ok_isWord : SpecOk Try.prog 117 s_word := by
  intro args S h; unfold s_word at h ⊢; (split at h <;> first | exact False.elim h | skip)
  dsimp only at h ⊢
  rename_i s
  refine funW tabOk (E := [(71, s_within)]) ⟨ok_within, trivial⟩ [] (k := 0) (fn := Try.f117) rfl rfl rfl rfl rfl rfl ?_
  (repeat' ((try (conv => whnf)); first | (with_reducible first | refine And.intro ?_ ?_ | refine WX.of ?_) | exact zc | ((with_reducible refine VC.mk ?_); exact zw) | (with_reducible first | refine splitT ?_ | refine splitF ?_) | ((with_reducible refine splitM.mk (fun hsm => ?_) (fun hsm => ?_)) <;> (try exact zx)) | ((with_reducible refine splitB.mk (fun h => ?_) (fun h => ?_)) <;> (try simp only [zs, ne_eq] at h) <;> (try simp (disch := omega) only [w64] at h) <;> (try exact zx)) | (with_reducible intro hz; (try exact absurd hz (Nat.succ_ne_zero _)))))
  refine loopW tabOk (E := [(71, s_within)]) ⟨ok_within, trivial⟩ [] (σ := Nat) (fun i => [(0, .str s), (5, .int .i64 s.length), (6, .int .i64 i)]) (fun i => []) (fun i => s.length - i) (fun i => i ≤ s.length ∧ ∀ (j : Nat) c, j < i → s[j]? = some c → letB c = true) 0 ⟨Nat.zero_le _, fun j a hj => by omega⟩ ?_ ?_
  · (repeat' ((try (conv => whnf)); first | (with_reducible first | refine And.intro ?_ ?_ | refine WX.of ?_) | exact zc | ((with_reducible refine VC.mk ?_); exact zw) | (with_reducible first | refine splitT ?_ | refine splitF ?_) | ((with_reducible refine splitM.mk (fun hsm => ?_) (fun hsm => ?_)) <;> (try exact zx)) | ((with_reducible refine splitB.mk (fun h => ?_) (fun h => ?_)) <;> (try simp only [zs, ne_eq] at h) <;> (try simp (disch := omega) only [w64] at h) <;> (try exact zx)) | (with_reducible intro hz; (try exact absurd hz (Nat.succ_ne_zero _)))))
  · intro i ⟨hi, hp⟩
    by_cases hlt : i < s.length
    · obtain ⟨c, hc⟩ := get_some (l := s) (i := i) (by omega)
      (repeat' ((try (conv => whnf)); first | (with_reducible first | refine And.intro ?_ ?_ | refine WX.of ?_) | exact zc | ((with_reducible refine VC.mk ?_); exact zw) | refine atL_n hc ?_ | (with_reducible first | refine splitT ?_ | refine splitF ?_) | ((with_reducible refine splitM.mk (fun hsm => ?_) (fun hsm => ?_)) <;> (try exact zx)) | ((with_reducible refine splitB.mk (fun h => ?_) (fun h => ?_)) <;> (try simp only [zs, ne_eq] at h) <;> (try simp (disch := omega) only [w64] at h) <;> (try exact zx)) | (with_reducible intro hz; (try exact absurd hz (Nat.succ_ne_zero _)))))
      · exact ⟨by rw [word_no hc (by unfold letB; rw [decide_eq_false]; omega)]⟩
      · exact ⟨by rw [word_no hc (by unfold letB; rw [decide_eq_false]; omega)]⟩
      · refine ⟨i + 1, by omega, ⟨hlt, upto_step hc (by unfold letB; rw [decide_eq_true]; omega) hp⟩, ?_⟩
        (repeat' ((try (conv => whnf)); first | (with_reducible first | refine And.intro ?_ ?_ | refine WX.of ?_) | exact zc | ((with_reducible refine VC.mk ?_); exact zw) | (with_reducible first | refine splitT ?_ | refine splitF ?_) | ((with_reducible refine splitM.mk (fun hsm => ?_) (fun hsm => ?_)) <;> (try exact zx)) | ((with_reducible refine splitB.mk (fun h => ?_) (fun h => ?_)) <;> (try simp only [zs, ne_eq] at h) <;> (try simp (disch := omega) only [w64] at h) <;> (try exact zx)) | (with_reducible intro hz; (try exact absurd hz (Nat.succ_ne_zero _)))))
    · (repeat' ((try (conv => whnf)); first | (with_reducible first | refine And.intro ?_ ?_ | refine WX.of ?_) | exact zc | ((with_reducible refine VC.mk ?_); exact zw) | (with_reducible first | refine splitT ?_ | refine splitF ?_) | ((with_reducible refine splitM.mk (fun hsm => ?_) (fun hsm => ?_)) <;> (try exact zx)) | ((with_reducible refine splitB.mk (fun h => ?_) (fun h => ?_)) <;> (try simp only [zs, ne_eq] at h) <;> (try simp (disch := omega) only [w64] at h) <;> (try exact zx)) | (with_reducible intro hz; (try exact absurd hz (Nat.succ_ne_zero _)))))
      have ha := word_all fun j c hj => hp j c (by have := (List.getElem?_eq_some_iff.1 hj).1; omega) hj
      refine ⟨congrArg SV.bool ?_⟩
      unfold wordB; rw [ha, Bool.and_true, decide_eq_decide]; omega
theorem ok_l05Name : SpecOk Try.prog 107 s_word := by
  intro args S h; unfold s_word at h ⊢; (split at h <;> first | exact False.elim h | skip)
  dsimp only at h ⊢
  rename_i s
  refine funW tabOk (E := []) trivial [] (k := 0) (fn := Try.f107) rfl rfl rfl rfl rfl rfl ?_
  (repeat' ((try (conv => whnf)); first | (with_reducible first | refine And.intro ?_ ?_ | refine WX.of ?_) | exact zc | ((with_reducible refine VC.mk ?_); exact zw) | (with_reducible first | refine splitT ?_ | refine splitF ?_) | ((with_reducible refine splitM.mk (fun hsm => ?_) (fun hsm => ?_)) <;> (try exact zx)) | ((with_reducible refine splitB.mk (fun h => ?_) (fun h => ?_)) <;> (try simp only [zs, ne_eq] at h) <;> (try simp (disch := omega) only [w64] at h) <;> (try exact zx)) | (with_reducible intro hz; (try exact absurd hz (Nat.succ_ne_zero _)))))
  · refine ⟨congrArg SV.bool ?_⟩; unfold wordB; rw [decide_eq_false (by omega)]; rfl
  · refine ⟨congrArg SV.bool ?_⟩; unfold wordB; rw [decide_eq_false (by omega)]; rfl
  · refine loopW tabOk (E := []) trivial [] (σ := Nat) (fun i => [(0, .str s), (3, .int .i64 i)]) (fun i => []) (fun i => s.length - i) (fun i => i ≤ s.length ∧ ∀ (j : Nat) c, j < i → s[j]? = some c → letB c = true) 0 ⟨Nat.zero_le _, fun j a hj => by omega⟩ ?_ ?_
    · (repeat' ((try (conv => whnf)); first | (with_reducible first | refine And.intro ?_ ?_ | refine WX.of ?_) | exact zc | ((with_reducible refine VC.mk ?_); exact zw) | (with_reducible first | refine splitT ?_ | refine splitF ?_) | ((with_reducible refine splitM.mk (fun hsm => ?_) (fun hsm => ?_)) <;> (try exact zx)) | ((with_reducible refine splitB.mk (fun h => ?_) (fun h => ?_)) <;> (try simp only [zs, ne_eq] at h) <;> (try simp (disch := omega) only [w64] at h) <;> (try exact zx)) | (with_reducible intro hz; (try exact absurd hz (Nat.succ_ne_zero _)))))
    · intro i ⟨hi, hp⟩
      by_cases hlt : i < s.length
      · obtain ⟨c, hc⟩ := get_some (l := s) (i := i) (by omega)
        (repeat' ((try (conv => whnf)); first | (with_reducible first | refine And.intro ?_ ?_ | refine WX.of ?_) | exact zc | ((with_reducible refine VC.mk ?_); exact zw) | refine atL_n hc ?_ | (with_reducible first | refine splitT ?_ | refine splitF ?_) | ((with_reducible refine splitM.mk (fun hsm => ?_) (fun hsm => ?_)) <;> (try exact zx)) | ((with_reducible refine splitB.mk (fun h => ?_) (fun h => ?_)) <;> (try simp only [zs, ne_eq] at h) <;> (try simp (disch := omega) only [w64] at h) <;> (try exact zx)) | (with_reducible intro hz; (try exact absurd hz (Nat.succ_ne_zero _)))))
        · exact ⟨by rw [word_no hc (by unfold letB; rw [decide_eq_false]; omega)]⟩
        · exact ⟨by rw [word_no hc (by unfold letB; rw [decide_eq_false]; omega)]⟩
        · refine ⟨i + 1, by omega, ⟨hlt, upto_step hc (by unfold letB; rw [decide_eq_true]; omega) hp⟩, ?_⟩
          (repeat' ((try (conv => whnf)); first | (with_reducible first | refine And.intro ?_ ?_ | refine WX.of ?_) | exact zc | ((with_reducible refine VC.mk ?_); exact zw) | (with_reducible first | refine splitT ?_ | refine splitF ?_) | ((with_reducible refine splitM.mk (fun hsm => ?_) (fun hsm => ?_)) <;> (try exact zx)) | ((with_reducible refine splitB.mk (fun h => ?_) (fun h => ?_)) <;> (try simp only [zs, ne_eq] at h) <;> (try simp (disch := omega) only [w64] at h) <;> (try exact zx)) | (with_reducible intro hz; (try exact absurd hz (Nat.succ_ne_zero _)))))
      · (repeat' ((try (conv => whnf)); first | (with_reducible first | refine And.intro ?_ ?_ | refine WX.of ?_) | exact zc | ((with_reducible refine VC.mk ?_); exact zw) | (with_reducible first | refine splitT ?_ | refine splitF ?_) | ((with_reducible refine splitM.mk (fun hsm => ?_) (fun hsm => ?_)) <;> (try exact zx)) | ((with_reducible refine splitB.mk (fun h => ?_) (fun h => ?_)) <;> (try simp only [zs, ne_eq] at h) <;> (try simp (disch := omega) only [w64] at h) <;> (try exact zx)) | (with_reducible intro hz; (try exact absurd hz (Nat.succ_ne_zero _)))))
        have ha := word_all fun j c hj => hp j c (by have := (List.getElem?_eq_some_iff.1 hj).1; omega) hj
        refine ⟨congrArg SV.bool ?_⟩
        unfold wordB; rw [ha, Bool.and_true, decide_eq_true (by omega)]
/-- A valid reader. -/
def rdrB (nm : List UInt8) (b u : Int) : Bool := wordB nm && guB b u
/-- A valid reader by its pointer. -/
def rdrOk (a : List UInt8 × Int × Int × Bool) : Bool := rdrB a.1 a.2.1 a.2.2.1
/-- Scaling changes no reduced fraction. -/
theorem redG_mul {g x y : Int} (hg : 0 < g) : redG (g * x) (g * y) = g * redG x y := by
  unfold redG
  rw [Int.gcd_mul_left]; push_cast
  rw [Int.natAbs_of_nonneg (by omega)]
theorem red_scale {g x y : Int} (hg : 0 < g) (hy : y ≠ 0) : redP (g * x) (g * y) = redP x y ∧ redQ (g * x) (g * y) = redQ x y := by
  have h1 : g * y < 0 ↔ y < 0 := by
    constructor
    · intro h; apply Classical.byContradiction; intro h2
      have := Int.mul_nonneg (show 0 ≤ g by omega) (show 0 ≤ y by omega); omega
    · intro h; exact Int.mul_neg_of_pos_of_neg hg h
  unfold redP redQ
  rw [redG_mul hg, Int.mul_ediv_mul_of_pos _ _ hg, Int.mul_ediv_mul_of_pos _ _ hg]
  by_cases h : y < 0
  · rw [if_pos h, if_pos (h1.2 h), if_pos h, if_pos (h1.2 h)]; exact ⟨rfl, rfl⟩
  · rw [if_neg h, if_neg (fun h2 => h (h1.1 h2)), if_neg h, if_neg (fun h2 => h (h1.1 h2))]; exact ⟨rfl, rfl⟩
theorem red_pos {p q : Int} (hq : 0 < q) : redP p q = p / redG p q ∧ redQ p q = q / redG p q := by
  unfold redP redQ; rw [if_neg (by omega), if_neg (by omega)]; exact ⟨rfl, rfl⟩
theorem red_back {p q : Int} (hq : 0 < q) : p = redG p q * redP p q ∧ q = redG p q * redQ p q := by
  rw [(red_pos hq).1, (red_pos hq).2]
  exact ⟨(Int.mul_ediv_cancel' (Int.gcd_dvd_left ..)).symm, (Int.mul_ediv_cancel' (Int.gcd_dvd_right ..)).symm⟩
theorem redQ_pos {p q : Int} (hq : 0 < q) : 0 < redQ p q := by
  have hg := redG_pos (p := p) (q := q) (by omega)
  have h := (red_back (p := p) hq).2
  apply Classical.byContradiction; intro h2
  have h3 : redG p q * redQ p q ≤ 0 := by
    have := Int.mul_nonneg (show 0 ≤ redG p q by omega) (show 0 ≤ -redQ p q by omega)
    rw [Int.mul_neg] at this; omega
  omega
/-- Small fractions are valid. -/
theorem redOk_small {p q : Int} (hp : -1000000000 ≤ p ∧ p ≤ 1000000000) (hq : 1 ≤ q ∧ q ≤ 1000000000) : redOk p q = true := by
  have hg := redG_pos (p := p) (q := q) (by omega)
  have e := red_pos (p := p) (q := q) (by omega)
  have h1 := redQ_pos (p := p) (q := q) (by omega)
  have h2 := ediv_small hg hp
  have h3 := ediv_small hg (p := q) (M := 1000000000) (by omega)
  have hgc : Int.gcd (redP p q) (redQ p q) = 1 := by
    rw [e.1, e.2]
    exact Int.gcd_ediv_gcd_ediv_gcd (by unfold redG at hg; omega)
  unfold redOk
  rw [fOk_iff]
  rw [← e.1, ← e.2] at *
  exact ⟨by omega, by omega, by omega, by omega, hgc⟩
/-- Comparing. -/
def cmpF (p q p' q' : Int) : Int := if p * q' < p' * q then -1 else if p * q' > p' * q then 1 else 0
def s_cmp : Spec := fun args S => match args, S with
  | [.agg [.int .i64 p, .int .i64 q], .agg [.int .i64 p', .int .i64 q']], [] => ⟨smF p q ∧ smF p' q', .int .i64 (cmpF p q p' q'), []⟩
  | _, _ => noSpec
theorem ok_compare : SpecOk Try.prog 57 s_cmp := by
  intro args S h; unfold s_cmp at h ⊢; (split at h <;> first | exact False.elim h | skip)
  dsimp only at h ⊢
  rename_i p q p' q'
  have hm := smF_mul h.1 h.2
  have hm' := smF_mul h.2 h.1
  refine funW tabOk (E := []) trivial [] (k := 0) (fn := Try.f57) rfl rfl rfl rfl rfl rfl ?_
  (repeat' ((try (conv => whnf)); first | (with_reducible first | refine And.intro ?_ ?_ | refine WX.of ?_) | exact zc | ((with_reducible refine VC.mk ?_); exact zw) | (with_reducible first | refine splitT ?_ | refine splitF ?_) | ((with_reducible refine splitM.mk (fun hsm => ?_) (fun hsm => ?_)) <;> (try exact zx)) | ((with_reducible refine splitB.mk (fun h => ?_) (fun h => ?_)) <;> (try simp only [zs, ne_eq] at h) <;> (try simp (disch := omega) only [w64] at h) <;> (try exact zx)) | (with_reducible intro hz; (try exact absurd hz (Nat.succ_ne_zero _)))))
  all_goals (refine ⟨?_⟩; unfold cmpF; first | (rw [if_pos (by omega)]; done) | (rw [if_neg (by omega), if_pos (by omega)]; done) | (rw [if_neg (by omega), if_neg (by omega)]))
theorem ok_l01Cmp : SpecOk Try.prog 136 s_cmp := by
  intro args S h; unfold s_cmp at h ⊢; (split at h <;> first | exact False.elim h | skip)
  dsimp only at h ⊢
  rename_i p q p' q'
  have hm := smF_mul h.1 h.2
  have hm' := smF_mul h.2 h.1
  refine funW tabOk (E := []) trivial [] (k := 0) (fn := Try.f136) rfl rfl rfl rfl rfl rfl ?_
  (repeat' ((try (conv => whnf)); first | (with_reducible first | refine And.intro ?_ ?_ | refine WX.of ?_) | exact zc | ((with_reducible refine VC.mk ?_); exact zw) | (with_reducible first | refine splitT ?_ | refine splitF ?_) | ((with_reducible refine splitM.mk (fun hsm => ?_) (fun hsm => ?_)) <;> (try exact zx)) | ((with_reducible refine splitB.mk (fun h => ?_) (fun h => ?_)) <;> (try simp only [zs, ne_eq] at h) <;> (try simp (disch := omega) only [w64] at h) <;> (try exact zx)) | (with_reducible intro hz; (try exact absurd hz (Nat.succ_ne_zero _)))))
  all_goals (refine ⟨?_⟩; unfold cmpF; first | (rw [if_pos (by omega)]; done) | (rw [if_neg (by omega), if_pos (by omega)]; done) | (rw [if_neg (by omega), if_neg (by omega)]))
theorem cmpF_le {p q p' q' : Int} : cmpF p q p' q' ≤ 0 ↔ p * q' ≤ p' * q := by unfold cmpF; (repeat' split) <;> omega
/-- A valid span. -/
def spOk (p q p' q' : Int) : Bool := fOk p q && fOk p' q' && decide (p * q' ≤ p' * q)
theorem spOk_iff {p q p' q' : Int} : spOk p q p' q' = true ↔ fOk p q = true ∧ fOk p' q' = true ∧ p * q' ≤ p' * q := by simp [spOk, and_assoc]
def s_vSpan : Spec := fun args S => match args, S with
  | [.agg [.int .i64 p, .int .i64 q, .int .i64 p', .int .i64 q']], [] => ⟨True, .bool (spOk p q p' q'), []⟩
  | _, _ => noSpec
theorem allF_two {p q p' q' : Int} : allF (seg [(p, q), (p', q')] 0 2) = (fOk p q && fOk p' q') := by simp [allF, seg]
theorem ok_ValidSpan : SpecOk Try.prog 55 s_vSpan := by
  intro args S h; unfold s_vSpan at h ⊢; (split at h <;> first | exact False.elim h | skip)
  dsimp only at h ⊢
  rename_i p q p' q'
  have hc := cmpF_le (p := p) (q := q) (p' := p') (q' := q')
  refine funW tabOk (E := [(105, s_allF), (57, s_cmp)]) ⟨ok_areValid, ok_compare, trivial⟩ [] (k := 0) (fn := Try.f55) rfl rfl rfl rfl rfl rfl ?_
  (repeat' ((try (conv => whnf)); first | (with_reducible first | refine And.intro ?_ ?_ | refine WX.of ?_) | exact zc | ((with_reducible refine VC.mk ?_); exact zw) | (with_reducible first | refine splitT ?_ | refine splitF ?_) | ((with_reducible refine splitM.mk (fun hsm => ?_) (fun hsm => ?_)) <;> (try exact zx)) | ((with_reducible refine splitB.mk (fun h => ?_) (fun h => ?_)) <;> (try simp only [zs, ne_eq] at h) <;> (try simp (disch := omega) only [w64] at h) <;> (try exact zx)) | (with_reducible intro hz; (try exact absurd hz (Nat.succ_ne_zero _)))))
  · exact ⟨⟨Nat.le_refl 2, by omega⟩⟩
  · rw [allF_two, Bool.and_eq_true] at h
    exact ⟨⟨smF_ok h.1, smF_ok h.2⟩⟩
  · rw [allF_two, Bool.and_eq_true] at h
    refine ⟨congrArg SV.bool ?_⟩
    simp only [hc]; simp [spOk, h]
  · rw [allF_two] at h
    refine ⟨congrArg SV.bool ?_⟩
    simp only [spOk, h]; rfl
theorem red_eq {p q p' q' : Int} (hq : 0 < q) (hq' : 0 < q') (h : p * q' = p' * q) : redP p q = redP p' q' ∧ redQ p q = redQ p' q' := by
  have h1 := red_scale (g := q') (x := p) (y := q) hq' (by omega)
  have h2 := red_scale (g := q) (x := p') (y := q') hq (by omega)
  have e1 : q' * p = q * p' := by rw [Int.mul_comm, h, Int.mul_comm]
  have e2 : q' * q = q * q' := Int.mul_comm ..
  rw [e1, e2] at h1
  exact ⟨h1.1.symm.trans h2.1, h1.2.symm.trans h2.2⟩
theorem red_x {p q : Int} (hq : 0 < q) : redP p q * q = p * redQ p q := by
  have h := red_back (p := p) (q := q) hq
  generalize redP p q = P at *
  generalize redQ p q = Q at *
  generalize redG p q = g at *
  obtain ⟨h1, h2⟩ := h
  rw [h1]
  conv => lhs; rw [h2]
  grind
end Go.Proofs.Ytnmpgofhdjcpaaa.Eng
set_option linter.unusedVariables false
set_option linter.unusedSimpArgs false
namespace Go.Proofs.Ytnmpgofhdjcpaaa.Eng
open Go Go.RowKit
set_option maxRecDepth 100000
theorem atL_q {α : Type} {l : List α} {i j : Nat} {a : α} {K : α → Prop} (h : l[i]? = some a) (e : j = i) (hk : K a) : atL l j K := by
  subst e; exact atL_iff.2 ⟨a, h, hk⟩
end Go.Proofs.Ytnmpgofhdjcpaaa.Eng
set_option linter.unusedVariables false
set_option linter.unusedSimpArgs false
namespace Go.Proofs.Ytnmpgofhdjcpaaa.Eng
open Go Go.RowKit
set_option maxRecDepth 100000
/-- The bytes from which is drawn, at the name b. -/
def codP (b : Nat) : SV → SB → Prop
  | .opt c b' n 0, .arrO (.int .u8) l 1 => b' = b ∧ (n ≤ l.length ∧ (c = true → l = []) ∧ n ≤ 1048576) ∧ ∀ a ∈ l, 0 ≤ a ∧ a ≤ (255 : Int)
  | .sl b' s n _, .arr (.int .u8) l 1 _ => b' = b ∧ (s + n ≤ l.length ∧ n ≤ 1048576) ∧ ∀ a ∈ l, 0 ≤ a ∧ a ≤ (255 : Int)
  | _, _ => False
def codL : SV → SB → List Int
  | .opt _ _ n 0, .arrO (.int .u8) l 1 => seg l 0 n
  | .sl _ s n _, .arr (.int .u8) l 1 _ => seg l s n
  | _, _ => []
theorem codP_c {b : Nat} {cv : SV} {rb : SB} (h : codP b cv rb) : (∃ (c : Bool) (n : Nat) (l : List Int), cv = .opt c b n 0 ∧ rb = .arrO (.int .u8) l 1 ∧ codL cv rb = seg l 0 n ∧ (n ≤ l.length ∧ (c = true → l = []) ∧ n ≤ 1048576) ∧ ∀ a ∈ l, 0 ≤ a ∧ a ≤ (255 : Int)) ∨
    ∃ (s n x : Nat) (l : List Int) (wr : Bool), cv = .sl b s n x ∧ rb = .arr (.int .u8) l 1 wr ∧ codL cv rb = seg l s n ∧ (s + n ≤ l.length ∧ n ≤ 1048576) ∧ ∀ a ∈ l, 0 ≤ a ∧ a ≤ (255 : Int) := by
  unfold codP at h
  split at h
  · obtain ⟨rfl, h1, h2⟩ := h; exact .inl ⟨_, _, _, rfl, rfl, rfl, h1, h2⟩
  · obtain ⟨rfl, h1, h2⟩ := h; exact .inr ⟨_, _, _, _, _, rfl, rfl, rfl, h1, h2⟩
  · exact h.elim
/-- What the code gives at k, and the seed behind k draws. -/
def byt (L : List Int) (k : Nat) : Int := (L[k]?).getD 0
def sdV (L : List Int) : Nat → Int
  | 0 => 0
  | k + 1 => IntKind.u64.wrap (IntKind.u64.wrap (IntKind.u64.wrap (sdV L k * 6364136223846793005) + IntKind.u64.wrap (byt L k)) + 1442695040888963407)
def sdI (L : List Int) (t : Int) : Int := sdV L t.toNat
def nxI (L : List Int) (t : Int) : Int := if t < L.length then byt L t.toNat else
  IntKind.i64.wrap (IntKind.u64.wrap ((BitVec.ofInt IntKind.u64.bits ((sdI L (t + 1)).fdiv (2 ^ (min (40 : Int).toNat IntKind.u64.bits))) &&& BitVec.ofInt IntKind.u64.bits 255).toNat))
theorem byt_b {L : List Int} (h : ∀ a ∈ L, 0 ≤ a ∧ a ≤ (255 : Int)) (k : Nat) : 0 ≤ byt L k ∧ byt L k ≤ 255 := by
  unfold byt
  cases hk : L[k]? with
  | none => exact ⟨Int.le_refl _, by decide⟩
  | some a => exact h a (List.mem_of_getElem? hk)
theorem sdI_s {L : List Int} {t : Int} (ht : 0 ≤ t) : sdI L (t + 1) = IntKind.u64.wrap (IntKind.u64.wrap (IntKind.u64.wrap (sdI L t * 6364136223846793005) + IntKind.u64.wrap (byt L t.toNat)) + 1442695040888963407) := by
  unfold sdI
  rw [show (t + 1).toNat = t.toNat + 1 by omega]
  rfl
theorem and_255 (x : BitVec 64) : (x &&& BitVec.ofInt 64 255).toNat ≤ 255 := by
  rw [BitVec.toNat_and]
  exact Nat.le_trans Nat.and_le_right (by decide)
theorem nxI_b {L : List Int} (h : ∀ a ∈ L, 0 ≤ a ∧ a ≤ (255 : Int)) (t : Int) : 0 ≤ nxI L t ∧ nxI L t ≤ 255 := by
  unfold nxI
  split
  · exact byt_b h _
  · have := and_255 (BitVec.ofInt 64 ((sdI L (t + 1)).fdiv (2 ^ (min (40 : Int).toNat IntKind.u64.bits))))
    change 0 ≤ IntKind.i64.wrap (IntKind.u64.wrap (((BitVec.ofInt 64 ((sdI L (t + 1)).fdiv (2 ^ (min (40 : Int).toNat IntKind.u64.bits))) &&& BitVec.ofInt 64 255).toNat : Nat) : Int)) ∧ IntKind.i64.wrap (IntKind.u64.wrap (((BitVec.ofInt 64 ((sdI L (t + 1)).fdiv (2 ^ (min (40 : Int).toNat IntKind.u64.bits))) &&& BitVec.ofInt 64 255).toNat : Nat) : Int)) ≤ 255
    generalize (BitVec.ofInt 64 ((sdI L (t + 1)).fdiv (2 ^ (min (40 : Int).toNat IntKind.u64.bits))) &&& BitVec.ofInt 64 255).toNat = y at this
    have e1 : IntKind.u64.wrap (y : Int) = y := by simp [IntKind.wrap, IntKind.bits, IntKind.signed]; omega
    rw [e1, w64 (by omega)]
    omega
theorem cod_b {b : Nat} {cv : SV} {rb : SB} (h : codP b cv rb) : ∀ a ∈ codL cv rb, 0 ≤ a ∧ a ≤ (255 : Int) := by
  rcases codP_c h with ⟨c, n, l, _, _, e, _, h2⟩ | ⟨s, n, x, l, wr, _, _, e, _, h2⟩
  · rw [e]; exact fun a ha => h2 a (List.mem_of_mem_take (List.mem_of_mem_drop (by simpa [seg] using ha : a ∈ (l.take n).drop 0)))
  · rw [e]; exact fun a ha => h2 a (List.mem_of_mem_drop (List.mem_of_mem_take ha))
/-- Where the source stands. -/
def srcP (b : Nat) (cv : SV) (rb : SB) (t sd : Int) : Prop := codP b cv rb ∧ (0 ≤ t ∧ t ≤ 1000000000000) ∧ sd = sdI (codL cv rb) t
def s_next : Spec := fun args S => match args, S with
  | [.ptr 0 0 0], [.box [cv, .int .i64 t, .int .u64 sd] true false, rb] => ⟨srcP 1 cv rb t sd, .int .i64 (nxI (codL cv rb) t), [.box [cv, .int .i64 (t + 1), .int .u64 (sdI (codL cv rb) (t + 1))] true false, rb]⟩
  | _, _ => noSpec
theorem ok_next : SpecOk Try.prog 114 s_next := by
  intro args S h; unfold s_next at h ⊢; (split at h <;> first | exact False.elim h | skip)
  dsimp only at h ⊢
  rename_i cv t sd rb
  obtain ⟨hc, ht, rfl⟩ := h
  have hbt := byt_b (cod_b hc) t.toNat
  have hst := sdI_s (L := codL cv rb) ht.1
  rcases codP_c hc with ⟨c, n, l, rfl, rfl, e, ⟨h1, h2, h3⟩, hb⟩ | ⟨s, n, x, l, wr, rfl, rfl, e, ⟨h1, h3⟩, hb⟩
  · rw [e] at hbt hst ⊢
    have hL : (seg l 0 n).length = n := seg_len (by omega)
    by_cases hlt : t < n
    · have hnx : nxI (seg l 0 n) t = byt (seg l 0 n) t.toNat := by unfold nxI; rw [hL, if_pos hlt]
      obtain ⟨a, ha⟩ := get_some (l := seg l 0 n) (i := t.toNat) (by omega)
      have ha2 := (seg_get ha).1
      rw [Nat.zero_add] at ha2
      have hba : byt (seg l 0 n) t.toNat = a := by unfold byt; rw [ha]; rfl
      rw [hnx]
      refine funW tabOk (E := []) trivial [] (k := 2) (fn := Try.f114) rfl rfl rfl rfl rfl rfl ?_
      rw [hba] at hbt hst
      (repeat' ((try (conv => whnf)); first | (with_reducible first | refine And.intro ?_ ?_ | refine WX.of ?_) | exact zc | ((with_reducible refine VC.mk ?_); exact zw) | with_reducible refine atL_q ha2 (by omega) ?_ | (with_reducible first | refine splitT ?_ | refine splitF ?_) | ((with_reducible refine splitM.mk (fun hsm => ?_) (fun hsm => ?_)) <;> (try exact zx)) | ((with_reducible refine splitB.mk (fun h => ?_) (fun h => ?_)) <;> (try simp only [zs, ne_eq] at h) <;> (try simp (disch := omega) only [w64] at h) <;> (try exact zx)) | (with_reducible intro hz; (try exact absurd hz (Nat.succ_ne_zero _)))))
      · exact ⟨by rw [hst, w64 (n := t + 1) (by omega), w64 (n := a) (by omega)]⟩
    · have hb0 : byt (seg l 0 n) t.toNat = 0 := by unfold byt; rw [List.getElem?_eq_none (by omega)]; rfl
      rw [hb0] at hst
      have hnx : nxI (seg l 0 n) t = IntKind.i64.wrap (IntKind.u64.wrap ((BitVec.ofInt IntKind.u64.bits ((sdI (seg l 0 n) (t + 1)).fdiv (2 ^ (min (40 : Int).toNat IntKind.u64.bits))) &&& BitVec.ofInt IntKind.u64.bits 255).toNat)) := by unfold nxI; rw [hL, if_neg hlt]
      rw [hnx, hst]
      refine funW tabOk (E := []) trivial [] (k := 2) (fn := Try.f114) rfl rfl rfl rfl rfl rfl ?_
      (repeat' ((try (conv => whnf)); first | (with_reducible first | refine And.intro ?_ ?_ | refine WX.of ?_) | exact zc | ((with_reducible refine VC.mk ?_); exact zw) | (with_reducible first | refine splitT ?_ | refine splitF ?_) | ((with_reducible refine splitM.mk (fun hsm => ?_) (fun hsm => ?_)) <;> (try exact zx)) | ((with_reducible refine splitB.mk (fun h => ?_) (fun h => ?_)) <;> (try simp only [zs, ne_eq] at h) <;> (try simp (disch := omega) only [w64] at h) <;> (try exact zx)) | (with_reducible intro hz; (try exact absurd hz (Nat.succ_ne_zero _)))))
      all_goals exact ⟨by rw [w64 (n := t + 1) (by omega)]⟩
  · rw [e] at hbt hst ⊢
    have hL : (seg l s n).length = n := seg_len (by omega)
    by_cases hlt : t < n
    · have hnx : nxI (seg l s n) t = byt (seg l s n) t.toNat := by unfold nxI; rw [hL, if_pos hlt]
      obtain ⟨a, ha⟩ := get_some (l := seg l s n) (i := t.toNat) (by omega)
      have ha2 := (seg_get ha).1
      have hba : byt (seg l s n) t.toNat = a := by unfold byt; rw [ha]; rfl
      rw [hnx]
      refine funW tabOk (E := []) trivial [] (k := 2) (fn := Try.f114) rfl rfl rfl rfl rfl rfl ?_
      rw [hba] at hbt hst
      (repeat' ((try (conv => whnf)); first | (with_reducible first | refine And.intro ?_ ?_ | refine WX.of ?_) | exact zc | ((with_reducible refine VC.mk ?_); exact zw) | with_reducible refine atL_q ha2 (by omega) ?_ | (with_reducible first | refine splitT ?_ | refine splitF ?_) | ((with_reducible refine splitM.mk (fun hsm => ?_) (fun hsm => ?_)) <;> (try exact zx)) | ((with_reducible refine splitB.mk (fun h => ?_) (fun h => ?_)) <;> (try simp only [zs, ne_eq] at h) <;> (try simp (disch := omega) only [w64] at h) <;> (try exact zx)) | (with_reducible intro hz; (try exact absurd hz (Nat.succ_ne_zero _)))))
      · exact ⟨by rw [hst, w64 (n := t + 1) (by omega), w64 (n := a) (by omega)]⟩
    · have hb0 : byt (seg l s n) t.toNat = 0 := by unfold byt; rw [List.getElem?_eq_none (by omega)]; rfl
      rw [hb0] at hst
      have hnx : nxI (seg l s n) t = IntKind.i64.wrap (IntKind.u64.wrap ((BitVec.ofInt IntKind.u64.bits ((sdI (seg l s n) (t + 1)).fdiv (2 ^ (min (40 : Int).toNat IntKind.u64.bits))) &&& BitVec.ofInt IntKind.u64.bits 255).toNat)) := by unfold nxI; rw [hL, if_neg hlt]
      rw [hnx, hst]
      refine funW tabOk (E := []) trivial [] (k := 2) (fn := Try.f114) rfl rfl rfl rfl rfl rfl ?_
      (repeat' ((try (conv => whnf)); first | (with_reducible first | refine And.intro ?_ ?_ | refine WX.of ?_) | exact zc | ((with_reducible refine VC.mk ?_); exact zw) | (with_reducible first | refine splitT ?_ | refine splitF ?_) | ((with_reducible refine splitM.mk (fun hsm => ?_) (fun hsm => ?_)) <;> (try exact zx)) | ((with_reducible refine splitB.mk (fun h => ?_) (fun h => ?_)) <;> (try simp only [zs, ne_eq] at h) <;> (try simp (disch := omega) only [w64] at h) <;> (try exact zx)) | (with_reducible intro hz; (try exact absurd hz (Nat.succ_ne_zero _)))))
      all_goals exact ⟨by rw [w64 (n := t + 1) (by omega)]⟩
/-- A number below n. -/
def pickA (t n : Int) : Int := if n ≤ 1 then t else if 200 < n then t + 1 + 1 else t + 1
def pickV (L : List Int) (t n : Int) : Int := if n ≤ 1 then 0 else if 200 < n then (nxI L t * 256 + nxI L (t + 1)).tmod n else (nxI L t).tmod n
theorem pickV_b {L : List Int} (h : ∀ a ∈ L, 0 ≤ a ∧ a ≤ (255 : Int)) (t n : Int) : 0 ≤ pickV L t n ∧ (1 ≤ n → pickV L t n < n) := by
  have h1 := nxI_b h t
  have h2 := nxI_b h (t + 1)
  unfold pickV
  split
  · exact ⟨Int.le_refl _, fun h => by omega⟩
  · split
    · exact ⟨Int.tmod_nonneg _ (by omega), fun _ => Int.tmod_lt_of_pos _ (by omega)⟩
    · exact ⟨Int.tmod_nonneg _ (by omega), fun _ => Int.tmod_lt_of_pos _ (by omega)⟩
theorem pickA_b {t n : Int} (h : 0 ≤ t) : t ≤ pickA t n ∧ pickA t n ≤ t + 2 := by unfold pickA; split <;> (try split) <;> omega
/-- The source's box, behind draws. -/
def s_pick : Spec := fun args S => match args, S with
  | [.ptr 0 0 0, .int .i64 n], [.box [cv, .int .i64 t, .int .u64 sd] true false, rb] => ⟨(srcP 1 cv rb t sd ∧ t ≤ 999999999990) ∧ n ≤ 1000000000, .int .i64 (pickV (codL cv rb) t n), [.box [cv, .int .i64 (pickA t n), .int .u64 (sdI (codL cv rb) (pickA t n))] true false, rb]⟩
  | _, _ => noSpec
theorem ok_pick : SpecOk Try.prog 79 s_pick := by
  intro args S h; unfold s_pick at h ⊢; (split at h <;> first | exact False.elim h | skip)
  dsimp only at h ⊢
  rename_i n cv t sd rb
  obtain ⟨⟨hs, ht2⟩, hn⟩ := h
  obtain ⟨hc, ht, rfl⟩ := hs
  have hb1 := nxI_b (cod_b hc) t
  have hb2 := nxI_b (cod_b hc) (t + 1)
  have hp : ∀ u, 0 ≤ u → u ≤ 1000000000000 → srcP 1 cv rb u (sdI (codL cv rb) u) := fun u h1 h2 => ⟨hc, ⟨h1, h2⟩, rfl⟩
  by_cases h1 : n ≤ 1
  · have ea : pickA t n = t := by unfold pickA; rw [if_pos h1]
    have ev : pickV (codL cv rb) t n = 0 := by unfold pickV; rw [if_pos h1]
    rw [ea, ev]
    rcases codP_c hc with ⟨c, m, l, rfl, rfl, e, _⟩ | ⟨s, m, x, l, wr, rfl, rfl, e, _⟩
    · refine funW tabOk (E := []) trivial [] (k := 2) (fn := Try.f79) rfl rfl rfl rfl rfl rfl ?_
      (repeat' ((try (conv => whnf)); first | (with_reducible first | refine And.intro ?_ ?_ | refine WX.of ?_) | exact zc | ((with_reducible refine VC.mk ?_); exact zw) | (with_reducible first | refine splitT ?_ | refine splitF ?_) | ((with_reducible refine splitM.mk (fun hsm => ?_) (fun hsm => ?_)) <;> (try exact zx)) | ((with_reducible refine splitB.mk (fun h => ?_) (fun h => ?_)) <;> (try simp only [zs, ne_eq] at h) <;> (try simp (disch := omega) only [w64] at h) <;> (try exact zx)) | (with_reducible intro hz; (try exact absurd hz (Nat.succ_ne_zero _)))))
    · refine funW tabOk (E := []) trivial [] (k := 2) (fn := Try.f79) rfl rfl rfl rfl rfl rfl ?_
      (repeat' ((try (conv => whnf)); first | (with_reducible first | refine And.intro ?_ ?_ | refine WX.of ?_) | exact zc | ((with_reducible refine VC.mk ?_); exact zw) | (with_reducible first | refine splitT ?_ | refine splitF ?_) | ((with_reducible refine splitM.mk (fun hsm => ?_) (fun hsm => ?_)) <;> (try exact zx)) | ((with_reducible refine splitB.mk (fun h => ?_) (fun h => ?_)) <;> (try simp only [zs, ne_eq] at h) <;> (try simp (disch := omega) only [w64] at h) <;> (try exact zx)) | (with_reducible intro hz; (try exact absurd hz (Nat.succ_ne_zero _)))))
  · by_cases h2 : 200 < n
    · have ea : pickA t n = t + 1 + 1 := by unfold pickA; rw [if_neg h1, if_pos h2]
      have ev : pickV (codL cv rb) t n = (nxI (codL cv rb) t * 256 + nxI (codL cv rb) (t + 1)).tmod n := by unfold pickV; rw [if_neg h1, if_pos h2]
      rw [ea, ev]
      rcases codP_c hc with ⟨c, m, l, rfl, rfl, e, _⟩ | ⟨s, m, x, l, wr, rfl, rfl, e, _⟩
      · refine funW tabOk (E := [(114, s_next)]) ⟨ok_next, trivial⟩ [] (k := 2) (fn := Try.f79) rfl rfl rfl rfl rfl rfl ?_
        (repeat' ((try (conv => whnf)); first | (with_reducible first | refine And.intro ?_ ?_ | refine WX.of ?_) | exact zc | ((with_reducible refine VC.mk ?_); exact zw) | ((with_reducible refine VC.mk ?_); exact hp _ (by omega) (by omega)) | (with_reducible first | refine splitT ?_ | refine splitF ?_) | ((with_reducible refine splitM.mk (fun hsm => ?_) (fun hsm => ?_)) <;> (try exact zx)) | ((with_reducible refine splitB.mk (fun h => ?_) (fun h => ?_)) <;> (try simp only [zs, ne_eq] at h) <;> (try simp (disch := omega) only [w64] at h) <;> (try exact zx)) | (with_reducible intro hz; (try exact absurd hz (Nat.succ_ne_zero _)))))
        exact ⟨by rw [w64 (n := _ * 256) (by omega), w64 (by omega)]⟩
      · refine funW tabOk (E := [(114, s_next)]) ⟨ok_next, trivial⟩ [] (k := 2) (fn := Try.f79) rfl rfl rfl rfl rfl rfl ?_
        (repeat' ((try (conv => whnf)); first | (with_reducible first | refine And.intro ?_ ?_ | refine WX.of ?_) | exact zc | ((with_reducible refine VC.mk ?_); exact zw) | ((with_reducible refine VC.mk ?_); exact hp _ (by omega) (by omega)) | (with_reducible first | refine splitT ?_ | refine splitF ?_) | ((with_reducible refine splitM.mk (fun hsm => ?_) (fun hsm => ?_)) <;> (try exact zx)) | ((with_reducible refine splitB.mk (fun h => ?_) (fun h => ?_)) <;> (try simp only [zs, ne_eq] at h) <;> (try simp (disch := omega) only [w64] at h) <;> (try exact zx)) | (with_reducible intro hz; (try exact absurd hz (Nat.succ_ne_zero _)))))
        exact ⟨by rw [w64 (n := _ * 256) (by omega), w64 (by omega)]⟩
    · have ea : pickA t n = t + 1 := by unfold pickA; rw [if_neg h1, if_neg h2]
      have ev : pickV (codL cv rb) t n = (nxI (codL cv rb) t).tmod n := by unfold pickV; rw [if_neg h1, if_neg h2]
      rw [ea, ev]
      rcases codP_c hc with ⟨c, m, l, rfl, rfl, e, _⟩ | ⟨s, m, x, l, wr, rfl, rfl, e, _⟩
      · refine funW tabOk (E := [(114, s_next)]) ⟨ok_next, trivial⟩ [] (k := 2) (fn := Try.f79) rfl rfl rfl rfl rfl rfl ?_
        (repeat' ((try (conv => whnf)); first | (with_reducible first | refine And.intro ?_ ?_ | refine WX.of ?_) | exact zc | ((with_reducible refine VC.mk ?_); exact zw) | ((with_reducible refine VC.mk ?_); exact hp _ (by omega) (by omega)) | (with_reducible first | refine splitT ?_ | refine splitF ?_) | ((with_reducible refine splitM.mk (fun hsm => ?_) (fun hsm => ?_)) <;> (try exact zx)) | ((with_reducible refine splitB.mk (fun h => ?_) (fun h => ?_)) <;> (try simp only [zs, ne_eq] at h) <;> (try simp (disch := omega) only [w64] at h) <;> (try exact zx)) | (with_reducible intro hz; (try exact absurd hz (Nat.succ_ne_zero _)))))
      · refine funW tabOk (E := [(114, s_next)]) ⟨ok_next, trivial⟩ [] (k := 2) (fn := Try.f79) rfl rfl rfl rfl rfl rfl ?_
        (repeat' ((try (conv => whnf)); first | (with_reducible first | refine And.intro ?_ ?_ | refine WX.of ?_) | exact zc | ((with_reducible refine VC.mk ?_); exact zw) | ((with_reducible refine VC.mk ?_); exact hp _ (by omega) (by omega)) | (with_reducible first | refine splitT ?_ | refine splitF ?_) | ((with_reducible refine splitM.mk (fun hsm => ?_) (fun hsm => ?_)) <;> (try exact zx)) | ((with_reducible refine splitB.mk (fun h => ?_) (fun h => ?_)) <;> (try simp only [zs, ne_eq] at h) <;> (try simp (disch := omega) only [w64] at h) <;> (try exact zx)) | (with_reducible intro hz; (try exact absurd hz (Nat.succ_ne_zero _)))))
def amV (L : List Int) (t : Int) (l : List Int) : Int := (l[(pickV L t l.length).toNat]?).getD 0
theorem pick_at {α : Type} {L : List Int} (h : ∀ a ∈ L, 0 ≤ a ∧ a ≤ (255 : Int)) (t : Int) {l : List α} (hl : 1 ≤ l.length) : ∃ a, l[(pickV L t l.length).toNat]? = some a := by
  have := pickV_b h t l.length
  exact get_some (by have := this.2 (by omega); omega)
def s_among : Spec := fun args S => match args, S with
  | [.ptr 0 0 0, .sl 1 0 n x], [.box [cv, .int .i64 t, .int .u64 sd] true false, .arr (.int .i64) l 1 wr, rb] => ⟨(srcP 2 cv rb t sd ∧ t ≤ 999999999990) ∧ n = l.length ∧ 1 ≤ n ∧ n ≤ 1000000000, .int .i64 (amV (codL cv rb) t l), [.box [cv, .int .i64 (pickA t l.length), .int .u64 (sdI (codL cv rb) (pickA t l.length))] true false, .arr (.int .i64) l 1 wr, rb]⟩
  | _, _ => noSpec
def s_oneS : Spec := fun args S => match args, S with
  | [.ptr 0 0 0, .int .i64 n], [.box [cv, .int .i64 t, .int .u64 sd] true false, rb] => ⟨(srcP 1 cv rb t sd ∧ t ≤ 999999999990) ∧ n ≤ 1000000000, .bool (decide (pickV (codL cv rb) t n = 0)), [.box [cv, .int .i64 (pickA t n), .int .u64 (sdI (codL cv rb) (pickA t n))] true false, rb]⟩
  | _, _ => noSpec
theorem ok_among : SpecOk Try.prog 86 s_among := by
  intro args S h; unfold s_among at h ⊢; (split at h <;> first | exact False.elim h | skip)
  dsimp only at h ⊢
  rename_i n x cv t sd l wr rb
  obtain ⟨⟨⟨hc, ht, rfl⟩, ht2⟩, rfl, h1, h2⟩ := h
  have hpb := pickV_b (cod_b hc) t l.length
  obtain ⟨a, ha⟩ := pick_at (cod_b hc) t h1
  have hav : amV (codL cv rb) t l = a := by unfold amV; rw [ha]; rfl
  rw [hav]
  have hp1 := hpb.2 (by omega)
  rcases codP_c hc with ⟨c, m, q, rfl, rfl, e, h3⟩ | ⟨s, m, y, q, wq, rfl, rfl, e, h3⟩
  · refine funW tabOk (E := [(79, s_pick)]) ⟨ok_pick, trivial⟩ [] (k := 3) (fn := Try.f86) rfl rfl rfl rfl rfl rfl ?_
    (repeat' ((try (conv => whnf)); first | (with_reducible first | refine And.intro ?_ ?_ | refine WX.of ?_) | exact zc | ((with_reducible refine VC.mk ?_); exact zw) | ((with_reducible refine VC.mk ?_); exact ⟨⟨⟨⟨rfl, h3⟩, ht, rfl⟩, ht2⟩, by omega⟩) | ((with_reducible refine VC.mk ?_); exact ⟨hpb.1, hp1⟩) | refine atL_q ha (by first  |  rfl  |  exact Nat.zero_add _) ?_ | (with_reducible first | refine splitT ?_ | refine splitF ?_) | ((with_reducible refine splitM.mk (fun hsm => ?_) (fun hsm => ?_)) <;> (try exact zx)) | ((with_reducible refine splitB.mk (fun h => ?_) (fun h => ?_)) <;> (try simp only [zs, ne_eq] at h) <;> (try simp (disch := omega) only [w64] at h) <;> (try exact zx)) | (with_reducible intro hz; (try exact absurd hz (Nat.succ_ne_zero _)))))
  · refine funW tabOk (E := [(79, s_pick)]) ⟨ok_pick, trivial⟩ [] (k := 3) (fn := Try.f86) rfl rfl rfl rfl rfl rfl ?_
    (repeat' ((try (conv => whnf)); first | (with_reducible first | refine And.intro ?_ ?_ | refine WX.of ?_) | exact zc | ((with_reducible refine VC.mk ?_); exact zw) | ((with_reducible refine VC.mk ?_); exact ⟨⟨⟨⟨rfl, h3⟩, ht, rfl⟩, ht2⟩, by omega⟩) | ((with_reducible refine VC.mk ?_); exact ⟨hpb.1, hp1⟩) | refine atL_q ha (by first  |  rfl  |  exact Nat.zero_add _) ?_ | (with_reducible first | refine splitT ?_ | refine splitF ?_) | ((with_reducible refine splitM.mk (fun hsm => ?_) (fun hsm => ?_)) <;> (try exact zx)) | ((with_reducible refine splitB.mk (fun h => ?_) (fun h => ?_)) <;> (try simp only [zs, ne_eq] at h) <;> (try simp (disch := omega) only [w64] at h) <;> (try exact zx)) | (with_reducible intro hz; (try exact absurd hz (Nat.succ_ne_zero _)))))
theorem ok_oneS : SpecOk Try.prog 82 s_oneS := by
  intro args S h; unfold s_oneS at h ⊢; (split at h <;> first | exact False.elim h | skip)
  dsimp only at h ⊢
  rename_i n cv t sd rb
  obtain ⟨⟨⟨hc, ht, rfl⟩, ht2⟩, h1⟩ := h
  rcases codP_c hc with ⟨c, m, q, rfl, rfl, e, h3⟩ | ⟨s, m, y, q, wq, rfl, rfl, e, h3⟩
  · refine funW tabOk (E := [(79, s_pick)]) ⟨ok_pick, trivial⟩ [] (k := 2) (fn := Try.f82) rfl rfl rfl rfl rfl rfl ?_
    (repeat' ((try (conv => whnf)); first | (with_reducible first | refine And.intro ?_ ?_ | refine WX.of ?_) | exact zc | ((with_reducible refine VC.mk ?_); exact zw) | ((with_reducible refine VC.mk ?_); exact ⟨⟨⟨⟨rfl, h3⟩, ht, rfl⟩, ht2⟩, by omega⟩) | (with_reducible first | refine splitT ?_ | refine splitF ?_) | ((with_reducible refine splitM.mk (fun hsm => ?_) (fun hsm => ?_)) <;> (try exact zx)) | ((with_reducible refine splitB.mk (fun h => ?_) (fun h => ?_)) <;> (try simp only [zs, ne_eq] at h) <;> (try simp (disch := omega) only [w64] at h) <;> (try exact zx)) | (with_reducible intro hz; (try exact absurd hz (Nat.succ_ne_zero _)))))
  · refine funW tabOk (E := [(79, s_pick)]) ⟨ok_pick, trivial⟩ [] (k := 2) (fn := Try.f82) rfl rfl rfl rfl rfl rfl ?_
    (repeat' ((try (conv => whnf)); first | (with_reducible first | refine And.intro ?_ ?_ | refine WX.of ?_) | exact zc | ((with_reducible refine VC.mk ?_); exact zw) | ((with_reducible refine VC.mk ?_); exact ⟨⟨⟨⟨rfl, h3⟩, ht, rfl⟩, ht2⟩, by omega⟩) | (with_reducible first | refine splitT ?_ | refine splitF ?_) | ((with_reducible refine splitM.mk (fun hsm => ?_) (fun hsm => ?_)) <;> (try exact zx)) | ((with_reducible refine splitB.mk (fun h => ?_) (fun h => ?_)) <;> (try simp only [zs, ne_eq] at h) <;> (try simp (disch := omega) only [w64] at h) <;> (try exact zx)) | (with_reducible intro hz; (try exact absurd hz (Nat.succ_ne_zero _)))))
def s_from : Spec := fun args S => match args, S with
  | [cv], [rb] => ⟨codP 0 cv rb, .ptr 1 0 0, [rb, .box [cv, .int .i64 0, .int .u64 0] true false]⟩
  | _, _ => noSpec
theorem ok_from : SpecOk Try.prog 36 s_from := by
  intro args S h; unfold s_from at h ⊢; (split at h <;> first | exact False.elim h | skip)
  dsimp only at h ⊢
  rename_i cv rb
  rcases codP_c h with ⟨c, m, q, rfl, rfl, e, h3⟩ | ⟨s, m, y, q, wq, rfl, rfl, e, h3⟩
  · refine funW tabOk (E := []) trivial [] (k := 1) (fn := Try.f36) rfl rfl rfl rfl rfl rfl ?_
    (repeat' ((try (conv => whnf)); first | (with_reducible first | refine And.intro ?_ ?_ | refine WX.of ?_) | exact zc | ((with_reducible refine VC.mk ?_); exact zw) | (with_reducible first | refine splitT ?_ | refine splitF ?_) | ((with_reducible refine splitM.mk (fun hsm => ?_) (fun hsm => ?_)) <;> (try exact zx)) | ((with_reducible refine splitB.mk (fun h => ?_) (fun h => ?_)) <;> (try simp only [zs, ne_eq] at h) <;> (try simp (disch := omega) only [w64] at h) <;> (try exact zx)) | (with_reducible intro hz; (try exact absurd hz (Nat.succ_ne_zero _)))))
  · refine funW tabOk (E := []) trivial [] (k := 1) (fn := Try.f36) rfl rfl rfl rfl rfl rfl ?_
    (repeat' ((try (conv => whnf)); first | (with_reducible first | refine And.intro ?_ ?_ | refine WX.of ?_) | exact zc | ((with_reducible refine VC.mk ?_); exact zw) | (with_reducible first | refine splitT ?_ | refine splitF ?_) | ((with_reducible refine splitM.mk (fun hsm => ?_) (fun hsm => ?_)) <;> (try exact zx)) | ((with_reducible refine splitB.mk (fun h => ?_) (fun h => ?_)) <;> (try simp only [zs, ne_eq] at h) <;> (try simp (disch := omega) only [w64] at h) <;> (try exact zx)) | (with_reducible intro hz; (try exact absurd hz (Nat.succ_ne_zero _)))))
end Go.Proofs.Ytnmpgofhdjcpaaa.Eng
set_option linter.unusedVariables false
set_option linter.unusedSimpArgs false
namespace Go.Proofs.Ytnmpgofhdjcpaaa.Eng
open Go Go.RowKit
set_option maxRecDepth 100000
end Go.Proofs.Ytnmpgofhdjcpaaa.Eng
set_option linter.unusedVariables false
set_option linter.unusedSimpArgs false
namespace Go.Proofs.Ytnmpgofhdjcpaaa.Eng
open Go Go.RowKit
set_option maxRecDepth 100000
end Go.Proofs.Ytnmpgofhdjcpaaa.Eng
set_option linter.unusedVariables false
set_option linter.unusedSimpArgs false
namespace Go.Proofs.Ytnmpgofhdjcpaaa.Eng
open Go Go.RowKit
set_option maxRecDepth 100000
/-- Fractions that may fail. -/
abbrev FrT : Type := Int × Int
def rO (p q : Int) : Option FrT := if redOk p q = true then some (redP p q, redQ p q) else none
def adO (a b : FrT) : Option FrT := rO (a.1 * b.2 + b.1 * a.2) (a.2 * b.2)
def sbO (a b : FrT) : Option FrT := rO (a.1 * b.2 - b.1 * a.2) (a.2 * b.2)
def muO (a b : FrT) : Option FrT := rO (a.1 * b.1) (a.2 * b.2)
def tv (o : Option FrT) : FrT := o.getD (0, 1)
def zv (o : Option FrT) : FrT := o.getD (0, 0)
def oC (o : Option FrT) : Int := if o.isSome = true then 0 else 3
theorem tv_r (p q : Int) : tolP p q = (tv (rO p q)).1 ∧ tolQ p q = (tv (rO p q)).2 ∧ redOk p q = (rO p q).isSome := by
  unfold tolP tolQ rO tv
  cases redOk p q <;> simp
theorem zv_r (p q : Int) : rdP p q = (zv (rO p q)).1 ∧ rdQ p q = (zv (rO p q)).2 ∧ rdC p q = oC (rO p q) := by
  unfold rdP rdQ rdC rO zv oC
  cases redOk p q <;> simp
theorem smF_tv (o : Option FrT) (h : ∀ v, o = some v → smF v.1 v.2) : smF (tv o).1 (tv o).2 := by
  cases o with
  | none => exact smF_1 (n := 0) (by omega)
  | some v => exact h v rfl
theorem rO_f {p q : Int} {v : FrT} (h : rO p q = some v) : fOk v.1 v.2 = true := by
  unfold rO at h
  split at h
  · rename_i hk; obtain rfl := Option.some.inj h; exact hk
  · simp at h
theorem smF_rO (p q : Int) : smF (tv (rO p q)).1 (tv (rO p q)).2 := smF_tv _ fun v h => smF_ok (rO_f h)
def s_addO : Spec := fun args S => match args, S with
  | [.ptr b 0 0, .agg [.int .i64 p, .int .i64 q], .agg [.int .i64 p', .int .i64 q']], [.arr .bool [bad] 0 true] => ⟨b = 0 ∧ smF p q ∧ smF p' q', .agg [.int .i64 (tv (adO (p, q) (p', q'))).1, .int .i64 (tv (adO (p, q) (p', q'))).2], [.arr .bool [bad || !(adO (p, q) (p', q')).isSome] 0 true]⟩
  | _, _ => noSpec
def s_subO : Spec := fun args S => match args, S with
  | [.ptr b 0 0, .agg [.int .i64 p, .int .i64 q], .agg [.int .i64 p', .int .i64 q']], [.arr .bool [bad] 0 true] => ⟨b = 0 ∧ smF p q ∧ smF p' q', .agg [.int .i64 (tv (sbO (p, q) (p', q'))).1, .int .i64 (tv (sbO (p, q) (p', q'))).2], [.arr .bool [bad || !(sbO (p, q) (p', q')).isSome] 0 true]⟩
  | _, _ => noSpec
def s_mulO : Spec := fun args S => match args, S with
  | [.ptr b 0 0, .agg [.int .i64 p, .int .i64 q], .agg [.int .i64 p', .int .i64 q']], [.arr .bool [bad] 0 true] => ⟨b = 0 ∧ smF p q ∧ smF p' q', .agg [.int .i64 (tv (muO (p, q) (p', q'))).1, .int .i64 (tv (muO (p, q) (p', q'))).2], [.arr .bool [bad || !(muO (p, q) (p', q')).isSome] 0 true]⟩
  | _, _ => noSpec
theorem ok_addO : SpecOk Try.prog 93 s_addO := by
  intro args S h; unfold s_addO at h ⊢; (split at h <;> first | exact False.elim h | skip)
  dsimp only at h ⊢
  rename_i b p q p' q' bad
  have h2 := ok_add [.ptr b 0 0, .agg [.int .i64 p, .int .i64 q], .agg [.int .i64 p', .int .i64 q']] [.arr .bool [bad] 0 true] h
  have e := tv_r (p * q' + p' * q) (q * q')
  simp only [s_add, e.1, e.2.1, e.2.2] at h2
  exact h2
theorem ok_subO : SpecOk Try.prog 54 s_subO := by
  intro args S h; unfold s_subO at h ⊢; (split at h <;> first | exact False.elim h | skip)
  dsimp only at h ⊢
  rename_i b p q p' q' bad
  have h2 := ok_sub [.ptr b 0 0, .agg [.int .i64 p, .int .i64 q], .agg [.int .i64 p', .int .i64 q']] [.arr .bool [bad] 0 true] h
  have e := tv_r (p * q' - p' * q) (q * q')
  simp only [s_sub, e.1, e.2.1, e.2.2] at h2
  exact h2
theorem ok_mulO : SpecOk Try.prog 47 s_mulO := by
  intro args S h; unfold s_mulO at h ⊢; (split at h <;> first | exact False.elim h | skip)
  dsimp only at h ⊢
  rename_i b p q p' q' bad
  have h2 := ok_mul [.ptr b 0 0, .agg [.int .i64 p, .int .i64 q], .agg [.int .i64 p', .int .i64 q']] [.arr .bool [bad] 0 true] h
  have e := tv_r (p * p') (q * q')
  simp only [s_mul, e.1, e.2.1, e.2.2] at h2
  exact h2
def s_addZ : Spec := fun args S => match args, S with
  | [.agg [.int .i64 p, .int .i64 q], .agg [.int .i64 p', .int .i64 q']], [] => ⟨smF p q ∧ smF p' q', .tup [.agg [.int .i64 (zv (adO (p, q) (p', q'))).1, .int .i64 (zv (adO (p, q) (p', q'))).2], .int .i64 (oC (adO (p, q) (p', q')))], []⟩
  | _, _ => noSpec
def s_mulZ : Spec := fun args S => match args, S with
  | [.agg [.int .i64 p, .int .i64 q], .agg [.int .i64 p', .int .i64 q']], [] => ⟨smF p q ∧ smF p' q', .tup [.agg [.int .i64 (zv (muO (p, q) (p', q'))).1, .int .i64 (zv (muO (p, q) (p', q'))).2], .int .i64 (oC (muO (p, q) (p', q')))], []⟩
  | _, _ => noSpec
def s_subZ : Spec := fun args S => match args, S with
  | [.agg [.int .i64 p, .int .i64 q], .agg [.int .i64 p', .int .i64 q']], [] => ⟨smF p q ∧ smF p' q', .tup [.agg [.int .i64 (zv (sbO (p, q) (p', q'))).1, .int .i64 (zv (sbO (p, q) (p', q'))).2], .int .i64 (oC (sbO (p, q) (p', q')))], []⟩
  | _, _ => noSpec
theorem ok_l01AddZ : SpecOk Try.prog 115 s_addZ := by
  intro args S h; unfold s_addZ at h ⊢; (split at h <;> first | exact False.elim h | skip)
  dsimp only at h ⊢
  rename_i p q p' q'
  have h2 := ok_l01Add [.agg [.int .i64 p, .int .i64 q], .agg [.int .i64 p', .int .i64 q']] [] h
  have e := zv_r (p * q' + p' * q) (q * q')
  simp only [s_addS, e.1, e.2.1, e.2.2] at h2
  exact h2
theorem ok_l01MulZ : SpecOk Try.prog 123 s_mulZ := by
  intro args S h; unfold s_mulZ at h ⊢; (split at h <;> first | exact False.elim h | skip)
  dsimp only at h ⊢
  rename_i p q p' q'
  have h2 := ok_l01Mul [.agg [.int .i64 p, .int .i64 q], .agg [.int .i64 p', .int .i64 q']] [] h
  have e := zv_r (p * p') (q * q')
  simp only [s_mulS, e.1, e.2.1, e.2.2] at h2
  exact h2
def s_neg : Spec := fun args S => match args, S with
  | [.agg [.int .i64 p, .int .i64 q]], [] => ⟨smF p q, .agg [.int .i64 (-p), .int .i64 q], []⟩
  | _, _ => noSpec
theorem ok_l01Neg : SpecOk Try.prog 84 s_neg := by
  intro args S h; unfold s_neg at h ⊢; (split at h <;> first | exact False.elim h | skip)
  dsimp only at h ⊢
  rename_i p q
  unfold smF at h
  refine funW tabOk (E := []) trivial [] (k := 0) (fn := Try.f84) rfl rfl rfl rfl rfl rfl ?_
  (repeat' ((try (conv => whnf)); first | (with_reducible first | refine And.intro ?_ ?_ | refine WX.of ?_) | exact zc | ((with_reducible refine VC.mk ?_); exact zw) | (with_reducible first | refine splitT ?_ | refine splitF ?_) | ((with_reducible refine splitM.mk (fun hsm => ?_) (fun hsm => ?_)) <;> (try exact zx)) | ((with_reducible refine splitB.mk (fun h => ?_) (fun h => ?_)) <;> (try simp only [zs, ne_eq] at h) <;> (try simp (disch := omega) only [w64] at h) <;> (try exact zx)) | (with_reducible intro hz; (try exact absurd hz (Nat.succ_ne_zero _)))))
  exact ⟨by rw [w64 (by omega), Int.zero_sub]⟩
theorem smF_neg {p q : Int} (h : smF p q) : smF (-p) q := by unfold smF at h ⊢; omega
theorem ok_l01SubZ : SpecOk Try.prog 124 s_subZ := by
  intro args S h; unfold s_subZ at h ⊢; (split at h <;> first | exact False.elim h | skip)
  dsimp only at h ⊢
  rename_i p q p' q'
  have e : adO (p, q) (-p', q') = sbO (p, q) (p', q') := by unfold adO sbO; dsimp only; rw [Int.neg_mul, Int.sub_eq_add_neg]
  refine funW tabOk (E := [(84, s_neg), (115, s_addZ)]) ⟨ok_l01Neg, ok_l01AddZ, trivial⟩ [(1, [(0, 1)])] (k := 0) (fn := Try.f124) rfl rfl rfl rfl rfl rfl ?_
  (repeat' ((try (conv => whnf)); first | (with_reducible first | refine And.intro ?_ ?_ | refine WX.of ?_) | exact zc | ((with_reducible refine VC.mk ?_); exact zw) | ((with_reducible refine VC.mk ?_); exact h.2) | ((with_reducible refine VC.mk ?_); exact ⟨h.1, smF_neg h.2⟩) | (with_reducible first | refine splitT ?_ | refine splitF ?_) | ((with_reducible refine splitM.mk (fun hsm => ?_) (fun hsm => ?_)) <;> (try exact zx)) | ((with_reducible refine splitB.mk (fun h => ?_) (fun h => ?_)) <;> (try simp only [zs, ne_eq] at h) <;> (try simp (disch := omega) only [w64] at h) <;> (try exact zx)) | (with_reducible intro hz; (try exact absurd hz (Nat.succ_ne_zero _)))))
  all_goals exact ⟨by rw [← e]⟩
theorem smF_mu (a b : FrT) : smF (tv (muO a b)).1 (tv (muO a b)).2 := smF_rO _ _
theorem oC_n {o : Option FrT} (h : ¬ oC o = 0) : o = none := by cases o with | none => rfl | some v => simp [oC] at h
theorem oC_s {o : Option FrT} (h : oC o = 0) : ∃ v, o = some v := by cases o with | none => simp [oC] at h | some v => exact ⟨v, rfl⟩
end Go.Proofs.Ytnmpgofhdjcpaaa.Eng
set_option linter.unusedVariables false
set_option linter.unusedSimpArgs false
namespace Go.Proofs.Ytnmpgofhdjcpaaa.Eng
open Go Go.RowKit
set_option maxRecDepth 100000
def tw (x : Int) : Int × Int := (redP x 20, redQ x 20)
theorem tw_q (x : Int) : 0 < (tw x).2 := redQ_pos (p := x) (q := 20) (by omega)
theorem tw_x (x : Int) : (tw x).1 * 20 = x * (tw x).2 := red_x (p := x) (q := 20) (by omega)
theorem tw_ok {x : Int} (h : -1000000000 ≤ x ∧ x ≤ 1000000000) : fOk (tw x).1 (tw x).2 = true := redOk_small (p := x) (q := 20) h (by omega)
theorem tw_of {p q x : Int} (hq : 0 < q) (h : p * 20 = x * q) : (redP p q, redQ p q) = tw x := by
  have := red_eq (p := p) (q := q) (p' := x) (q' := 20) hq (by omega) h
  unfold tw
  rw [this.1, this.2]
theorem rO_tw {p q x : Int} (hq : 0 < q) (h : p * 20 = x * q) (hx : -1000000000 ≤ x ∧ x ≤ 1000000000) : rO p q = some (tw x) := by
  have e := tw_of hq h
  have ho := tw_ok hx
  rw [← e] at ho
  unfold rO
  rw [if_pos (show redOk p q = true from ho), e]
theorem tw_add {x y : Int} (h : -1000000000 ≤ x + y ∧ x + y ≤ 1000000000) : adO (tw x) (tw y) = some (tw (x + y)) := by
  have h1 := tw_x x
  have h2 := tw_x y
  exact rO_tw (Int.mul_pos (tw_q x) (tw_q y)) (by grind) h
theorem tw_sub {x y : Int} (h : -1000000000 ≤ x - y ∧ x - y ≤ 1000000000) : sbO (tw x) (tw y) = some (tw (x - y)) := by
  have h1 := tw_x x
  have h2 := tw_x y
  exact rO_tw (Int.mul_pos (tw_q x) (tw_q y)) (by grind) h
theorem tw_mul {x n : Int} (h : -1000000000 ≤ x * n ∧ x * n ≤ 1000000000) : muO (tw x) (n, 1) = some (tw (x * n)) := by
  have h1 := tw_x x
  have h2 := tw_q x
  exact rO_tw (by dsimp only; omega) (by grind) h
theorem tw_lt (a b : Int) : (tw a).1 * (tw b).2 < (tw b).1 * (tw a).2 ↔ a < b := by
  have h1 := tw_x a
  have h2 := tw_x b
  have q1 := tw_q a
  have q2 := tw_q b
  generalize (tw a).1 = P at *
  generalize (tw a).2 = Q at *
  generalize (tw b).1 = R at *
  generalize (tw b).2 = S at *
  have e1 : (P * S) * 20 = a * (Q * S) := by grind
  have e2 : (R * Q) * 20 = b * (Q * S) := by grind
  have hp : 0 < Q * S := Int.mul_pos q1 q2
  constructor
  · intro h
    have : a * (Q * S) < b * (Q * S) := by omega
    exact Int.lt_of_mul_lt_mul_right this (by omega)
  · intro h
    have := Int.mul_lt_mul_of_pos_right h hp
    omega
theorem tw_le (a b : Int) : (tw a).1 * (tw b).2 ≤ (tw b).1 * (tw a).2 ↔ a ≤ b := by
  have := tw_lt b a
  constructor
  · intro h; apply Classical.byContradiction; intro h2; have := this.2 (by omega); omega
  · intro h; apply Classical.byContradiction; intro h2; have := this.1 (by omega); omega
theorem tw_neg (u : Int) : tw (-u) = (-(tw u).1, (tw u).2) := by
  have e1 := red_pos (p := u) (q := 20) (by omega)
  have e2 := red_pos (p := -u) (q := 20) (by omega)
  unfold tw
  have hg : redG (-u) 20 = redG u 20 := by simp [redG]
  rw [e1.1, e1.2, e2.1, e2.2, hg]
  have := Int.neg_ediv_of_dvd (a := u) (b := redG u 20) (Int.gcd_dvd_left ..)
  rw [this]
theorem tw_0 : tw 0 = (0, 1) := by decide
theorem tw_sgn (x : Int) : ((tw x).1 < 0 ↔ x < 0) ∧ (0 ≤ (tw x).1 ↔ 0 ≤ x) := by
  have h := tw_lt x 0
  rw [tw_0] at h
  have q := tw_q x
  simp only [Int.mul_one, Int.zero_mul] at h
  exact ⟨h, by omega⟩
end Go.Proofs.Ytnmpgofhdjcpaaa.Eng
set_option linter.unusedVariables false
set_option linter.unusedSimpArgs false
namespace Go.Proofs.Ytnmpgofhdjcpaaa.Eng
open Go Go.RowKit
set_option maxRecDepth 100000
abbrev SpT : Type := (Int × Int) × Int × Int
def spB (s : SpT) : Bool := spOk s.1.1 s.1.2 s.2.1 s.2.2
def nspB (s : SpT) : Bool := !spB s
def s_nvSp : Spec := fun args S => match args, S with
  | [.agg [.int .i64 p, .int .i64 q, .int .i64 p', .int .i64 q']], [] => ⟨True, .bool (!spOk p q p' q'), []⟩
  | _, _ => noSpec
theorem ok_areSpans1 : SpecOk Try.prog 104 s_nvSp := by
  intro args S h; unfold s_nvSp at h ⊢; (split at h <;> first | exact False.elim h | skip)
  dsimp only at h ⊢
  refine funW tabOk (E := [(55, s_vSpan)]) ⟨ok_ValidSpan, trivial⟩ [] (k := 0) (fn := Try.f104) rfl rfl rfl rfl rfl rfl ?_
  (repeat' ((try (conv => whnf)); first | (with_reducible first | refine And.intro ?_ ?_ | refine WX.of ?_) | exact zc | ((with_reducible refine VC.mk ?_); exact zw) | (with_reducible first | refine splitT ?_ | refine splitF ?_) | ((with_reducible refine splitM.mk (fun hsm => ?_) (fun hsm => ?_)) <;> (try exact zx)) | ((with_reducible refine splitB.mk (fun h => ?_) (fun h => ?_)) <;> (try simp only [zs, ne_eq] at h) <;> (try simp (disch := omega) only [w64] at h) <;> (try exact zx)) | (with_reducible intro hz; (try exact absurd hz (Nat.succ_ne_zero _)))))
def s_idxSp (g : Nat) : Spec := fun args S => match args, S with
  | [.sl 0 s n x, .fn g' []], [.arr (.prod (.prod (.int .i64) (.int .i64)) (.prod (.int .i64) (.int .i64))) l 4 wr] => ⟨g' = g ∧ s + n ≤ l.length ∧ n ≤ 4611686018427387904, .int .i64 (findI nspB (seg l s n)), [.arr (.prod (.prod (.int .i64) (.int .i64)) (.prod (.int .i64) (.int .i64))) l 4 wr]⟩
  | _, _ => noSpec
theorem ok_idxSp : SpecOk Try.prog 125 (s_idxSp 104) := by
  intro args S h; unfold s_idxSp at h ⊢; (split at h <;> first | exact False.elim h | skip)
  dsimp only at h ⊢
  rename_i s n x g l wr
  obtain ⟨rfl, h1, h2⟩ := h
  have hL := seg_len h1
  refine funW tabOk (E := [(104, s_nvSp)]) ⟨ok_areSpans1, trivial⟩ [] (k := 1) (fn := Try.f125) rfl rfl rfl rfl rfl rfl ?_
  (repeat' ((try (conv => whnf)); first | (with_reducible first | refine And.intro ?_ ?_ | refine WX.of ?_) | exact zc | ((with_reducible refine VC.mk ?_); exact zw) | (with_reducible first | refine splitT ?_ | refine splitF ?_) | ((with_reducible refine splitM.mk (fun hsm => ?_) (fun hsm => ?_)) <;> (try exact zx)) | ((with_reducible refine splitB.mk (fun h => ?_) (fun h => ?_)) <;> (try simp only [zs, ne_eq] at h) <;> (try simp (disch := omega) only [w64] at h) <;> (try exact zx)) | (with_reducible intro hz; (try exact absurd hz (Nat.succ_ne_zero _)))))
  refine loopW tabOk (E := [(104, s_nvSp)]) ⟨ok_areSpans1, trivial⟩ [] (σ := Nat) (fun i => [(0, .sl 0 s n x), (1, .fn 104 []), (7, .int .i64 n), (8, .int .i64 i)]) (fun i => [.arr (.prod (.prod (.int .i64) (.int .i64)) (.prod (.int .i64) (.int .i64))) l 4 wr]) (fun i => n - i) (fun i => i ≤ n ∧ ∀ (j : Nat) a, j < i → (seg l s n)[j]? = some a → nspB a = false) 0 ⟨Nat.zero_le _, fun j a hj => by omega⟩ ?_ ?_
  · (repeat' ((try (conv => whnf)); first | (with_reducible first | refine And.intro ?_ ?_ | refine WX.of ?_) | exact zc | ((with_reducible refine VC.mk ?_); exact zw) | (with_reducible first | refine splitT ?_ | refine splitF ?_) | ((with_reducible refine splitM.mk (fun hsm => ?_) (fun hsm => ?_)) <;> (try exact zx)) | ((with_reducible refine splitB.mk (fun h => ?_) (fun h => ?_)) <;> (try simp only [zs, ne_eq] at h) <;> (try simp (disch := omega) only [w64] at h) <;> (try exact zx)) | (with_reducible intro hz; (try exact absurd hz (Nat.succ_ne_zero _)))))
  · intro i ⟨hi, hp⟩
    by_cases hlt : i < n
    · obtain ⟨a, ha⟩ := get_some (l := seg l s n) (i := i) (by omega)
      (repeat' ((try (conv => whnf)); first | (with_reducible first | refine And.intro ?_ ?_ | refine WX.of ?_) | exact zc | ((with_reducible refine VC.mk ?_); exact zw) | refine atL_i ha ?_ | (with_reducible first | refine splitT ?_ | refine splitF ?_) | ((with_reducible refine splitM.mk (fun hsm => ?_) (fun hsm => ?_)) <;> (try exact zx)) | ((with_reducible refine splitB.mk (fun h => ?_) (fun h => ?_)) <;> (try simp only [zs, ne_eq] at h) <;> (try simp (disch := omega) only [w64] at h) <;> (try exact zx)) | (with_reducible intro hz; (try exact absurd hz (Nat.succ_ne_zero _)))))
      · exact ⟨by rw [findI_some ha (by simpa [nspB, spB] using h) hp]⟩
      · refine ⟨i + 1, by omega, ⟨hlt, upto_step ha (by simpa [nspB, spB] using h) hp⟩, ?_⟩
        (repeat' ((try (conv => whnf)); first | (with_reducible first | refine And.intro ?_ ?_ | refine WX.of ?_) | exact zc | ((with_reducible refine VC.mk ?_); exact zw) | (with_reducible first | refine splitT ?_ | refine splitF ?_) | ((with_reducible refine splitM.mk (fun hsm => ?_) (fun hsm => ?_)) <;> (try exact zx)) | ((with_reducible refine splitB.mk (fun h => ?_) (fun h => ?_)) <;> (try simp only [zs, ne_eq] at h) <;> (try simp (disch := omega) only [w64] at h) <;> (try exact zx)) | (with_reducible intro hz; (try exact absurd hz (Nat.succ_ne_zero _)))))
    · (repeat' ((try (conv => whnf)); first | (with_reducible first | refine And.intro ?_ ?_ | refine WX.of ?_) | exact zc | ((with_reducible refine VC.mk ?_); exact zw) | (with_reducible first | refine splitT ?_ | refine splitF ?_) | ((with_reducible refine splitM.mk (fun hsm => ?_) (fun hsm => ?_)) <;> (try exact zx)) | ((with_reducible refine splitB.mk (fun h => ?_) (fun h => ?_)) <;> (try simp only [zs, ne_eq] at h) <;> (try simp (disch := omega) only [w64] at h) <;> (try exact zx)) | (with_reducible intro hz; (try exact absurd hz (Nat.succ_ne_zero _)))))
      exact ⟨by rw [findI_none fun j a hj => hp j a (by have := (List.getElem?_eq_some_iff.1 hj).1; omega) hj]⟩
def s_anySp (g : Nat) : Spec := fun args S => match args, S with
  | [.sl 0 s n x, .fn g' []], [.arr (.prod (.prod (.int .i64) (.int .i64)) (.prod (.int .i64) (.int .i64))) l 4 wr] => ⟨g' = g ∧ s + n ≤ l.length ∧ n ≤ 4611686018427387904, .bool ((seg l s n).any nspB), [.arr (.prod (.prod (.int .i64) (.int .i64)) (.prod (.int .i64) (.int .i64))) l 4 wr]⟩
  | _, _ => noSpec
theorem ok_anySp : SpecOk Try.prog 103 (s_anySp 104) := by
  intro args S h; unfold s_anySp at h ⊢; (split at h <;> first | exact False.elim h | skip)
  dsimp only at h ⊢
  rename_i s n x g l wr
  obtain ⟨rfl, h1, h2⟩ := h
  refine funW tabOk (E := [(125, (s_idxSp 104))]) ⟨ok_idxSp, trivial⟩ [] (k := 1) (fn := Try.f103) rfl rfl rfl rfl rfl rfl ?_
  (repeat' ((try (conv => whnf)); first | (with_reducible first | refine And.intro ?_ ?_ | refine WX.of ?_) | exact zc | ((with_reducible refine VC.mk ?_); exact zw) | (with_reducible first | refine splitT ?_ | refine splitF ?_) | ((with_reducible refine splitM.mk (fun hsm => ?_) (fun hsm => ?_)) <;> (try exact zx)) | ((with_reducible refine splitB.mk (fun h => ?_) (fun h => ?_)) <;> (try simp only [zs, ne_eq] at h) <;> (try simp (disch := omega) only [w64] at h) <;> (try exact zx)) | (with_reducible intro hz; (try exact absurd hz (Nat.succ_ne_zero _)))))
  exact ⟨by rw [findI_any]⟩
def s_areSp : Spec := fun args S => match args, S with
  | [.sl 0 s n x], [.arr (.prod (.prod (.int .i64) (.int .i64)) (.prod (.int .i64) (.int .i64))) l 4 wr] => ⟨s + n ≤ l.length ∧ n ≤ 4611686018427387904, .bool ((seg l s n).all spB), [.arr (.prod (.prod (.int .i64) (.int .i64)) (.prod (.int .i64) (.int .i64))) l 4 wr]⟩
  | _, _ => noSpec
theorem ok_areSpans : SpecOk Try.prog 53 s_areSp := by
  intro args S h; unfold s_areSp at h ⊢; (split at h <;> first | exact False.elim h | skip)
  dsimp only at h ⊢
  refine funW tabOk (E := [(103, (s_anySp 104))]) ⟨ok_anySp, trivial⟩ [] (k := 1) (fn := Try.f53) rfl rfl rfl rfl rfl rfl ?_
  (repeat' ((try (conv => whnf)); first | (with_reducible first | refine And.intro ?_ ?_ | refine WX.of ?_) | exact zc | ((with_reducible refine VC.mk ?_); exact zw) | (with_reducible first | refine splitT ?_ | refine splitF ?_) | ((with_reducible refine splitM.mk (fun hsm => ?_) (fun hsm => ?_)) <;> (try exact zx)) | ((with_reducible refine splitB.mk (fun h => ?_) (fun h => ?_)) <;> (try simp only [zs, ne_eq] at h) <;> (try simp (disch := omega) only [w64] at h) <;> (try exact zx)) | (with_reducible intro hz; (try exact absurd hz (Nat.succ_ne_zero _)))))
  all_goals (refine ⟨?_⟩; rw [List.all_eq_not_any_not]; rfl)
theorem spB_f {s : SpT} (h : spB s = true) : fOk s.1.1 s.1.2 = true ∧ fOk s.2.1 s.2.2 = true ∧ s.1.1 * s.2.2 ≤ s.2.1 * s.1.2 := by
  unfold spB at h; rw [spOk_iff] at h; exact h
end Go.Proofs.Ytnmpgofhdjcpaaa.Eng
set_option linter.unusedVariables false
set_option linter.unusedSimpArgs false
namespace Go.Proofs.Ytnmpgofhdjcpaaa.Eng
open Go Go.RowKit
set_option maxRecDepth 100000
/-- A standard; a chain of them. -/
abbrev StT : Type := List UInt8 × Int × SpT × FrT × (Int × Int)
def stD : StT := ([], 0, ((0, 0), 0, 0), (0, 0), 0, 0)
def stMd (x : StT) : Int := x.2.2.2.2.1
def gdB (x : StT) (d : Int) : Bool := decide (x.2.2.2.2.1 ≤ d ∧ d ≤ x.2.2.2.2.1 + x.2.2.2.2.2)
def stAt (L : List StT) (i : Int) : StT := (L[i.toNat]?).getD stD
theorem stAt_z {L : List StT} {i : Int} {x : StT} (h : L[i.toNat]? = some x) : stAt L i = x := by unfold stAt; rw [h]; rfl
def s1B (L : List StT) (i : Nat) (x : StT) : Bool := wordB x.1 && !((L.take i).any fun o => decide (o.1 = x.1))
def dyB (d : Int) : Bool := decide (0 ≤ d ∧ d ≤ 100000)
def s2B (x : StT) : Bool := spB x.2.2.1 && fOk x.2.2.2.1.1 x.2.2.2.1.2 && decide (0 ≤ x.2.2.2.1.1) && dyB x.2.2.2.2.1 && dyB x.2.2.2.2.2
def s3B (L : List StT) (i : Nat) (x : StT) : Bool := decide (-1 ≤ x.2.1 ∧ x.2.1 ≤ (i : Int) - 1) && (decide (x.2.1 < 0) || gdB (stAt L x.2.1) x.2.2.2.2.1)
def stB (L : List StT) (i : Nat) (x : StT) : Bool := s1B L i x && s2B x && s3B L i x
def chB (L : List StT) : Bool := allI stD (stB L) L && decide (L.length ≤ 30)
theorem ch_no {L : List StT} {k : Nat} {a : StT} (ha : L[k]? = some a) (h : stB L k a = false) : chB L = false := by
  unfold chB; rw [allI_no ha h, Bool.false_and]
theorem ch_yes {L : List StT} (h : ∀ (k : Nat) a, L[k]? = some a → stB L k a = true) : chB L = decide (L.length ≤ 30) := by
  unfold chB; rw [allI_iff.2 h, Bool.true_and]
theorem st_1 {L : List StT} {i : Nat} {x : StT} (h : s1B L i x = false) : stB L i x = false := by unfold stB; rw [h, Bool.false_and, Bool.false_and]
theorem st_2 {L : List StT} {i : Nat} {x : StT} (h : s2B x = false) : stB L i x = false := by unfold stB; rw [h, Bool.and_false, Bool.false_and]
theorem st_3 {L : List StT} {i : Nat} {x : StT} (h : s3B L i x = false) : stB L i x = false := by unfold stB; rw [h, Bool.and_false]
theorem ch_len {L : List StT} (h : chB L = true) : L.length ≤ 30 := by unfold chB at h; simp at h; exact h.2
theorem ch_at {L : List StT} (h : chB L = true) {k : Nat} {a : StT} (ha : L[k]? = some a) : stB L k a = true := by
  unfold chB at h; rw [Bool.and_eq_true] at h; exact allI_at h.1 ha
structure StOk (L : List StT) (k : Nat) (a : StT) : Prop where
  nm : wordB a.1 = true
  vl : spB a.2.2.1 = true
  dr : fOk a.2.2.2.1.1 a.2.2.2.1.2 = true
  dn : 0 ≤ a.2.2.2.1.1
  md : 0 ≤ a.2.2.2.2.1 ∧ a.2.2.2.2.1 ≤ 100000
  gd : 0 ≤ a.2.2.2.2.2 ∧ a.2.2.2.2.2 ≤ 100000
  fr : -1 ≤ a.2.1 ∧ a.2.1 ≤ (k : Int) - 1
  go : 0 ≤ a.2.1 → (stAt L a.2.1).2.2.2.2.1 ≤ a.2.2.2.2.1 ∧ a.2.2.2.2.1 ≤ (stAt L a.2.1).2.2.2.2.1 + (stAt L a.2.1).2.2.2.2.2
theorem stB_ok {L : List StT} {k : Nat} {a : StT} (h : stB L k a = true) : StOk L k a := by
  unfold stB s1B s2B s3B gdB dyB at h
  simp only [Bool.and_eq_true, Bool.or_eq_true, decide_eq_true_eq] at h
  obtain ⟨⟨⟨h1, _⟩, ⟨⟨⟨h2, h3⟩, h4⟩, h5⟩, h6⟩, h7, h8⟩ := h
  exact ⟨h1, h2, h3, h4, h5, h6, h7, fun h9 => by rcases h8 with h8 | h8 <;> omega⟩
theorem ch_ok {L : List StT} (h : chB L = true) {k : Nat} {a : StT} (ha : L[k]? = some a) : StOk L k a := stB_ok (ch_at h ha)
theorem ch_z {L : List StT} (h : chB L = true) {i : Int} (h0 : 0 ≤ i ∧ i < L.length) : ∃ a, L[i.toNat]? = some a ∧ stAt L i = a ∧ StOk L i.toNat a := by
  obtain ⟨a, ha⟩ := get_some (l := L) (i := i.toNat) (by omega)
  exact ⟨a, ha, stAt_z ha, ch_ok h ha⟩
def pathF (L : List StT) : Nat → Int → List Int
  | 0, _ => []
  | n + 1, i => if i < 0 then [] else pathF L n (stAt L i).2.1 ++ [i]
def pathL (L : List StT) (i : Int) : List Int := pathF L 31 i
theorem pathF_neg (L : List StT) (n : Nat) {i : Int} (h : i < 0) : pathF L n i = [] := by
  cases n with
  | zero => rfl
  | succ n => rw [pathF, if_pos h]
theorem fr_lt {L : List StT} (h : chB L = true) {i : Int} (h0 : 0 ≤ i ∧ i < L.length) : -1 ≤ (stAt L i).2.1 ∧ (stAt L i).2.1 ≤ i - 1 := by
  obtain ⟨a, _, e, ho⟩ := ch_z h h0
  rw [e]; have := ho.fr; omega
theorem pathF_fuel {L : List StT} (h : chB L = true) : ∀ (n : Nat) {m : Nat} {i : Int}, i < n → i < m → i < L.length → pathF L n i = pathF L m i
  | 0, m, i, h1, h2, h3 => by rw [pathF_neg L 0 (by omega), pathF_neg L m (by omega)]
  | n + 1, 0, i, h1, h2, h3 => by rw [pathF_neg L _ (by omega), pathF_neg L _ (by omega)]
  | n + 1, m + 1, i, h1, h2, h3 => by
    rw [pathF, pathF]
    split
    · rfl
    · have := fr_lt h (i := i) (by omega)
      rw [pathF_fuel h n (m := m) (by omega) (by omega) (by omega)]
theorem path_neg {L : List StT} {i : Int} (h : i < 0) : pathL L i = [] := pathF_neg L _ h
theorem path_step {L : List StT} (h : chB L = true) {i : Int} (h0 : 0 ≤ i ∧ i < L.length) : pathL L i = pathL L (stAt L i).2.1 ++ [i] := by
  have hl := ch_len h
  have hf := fr_lt h h0
  unfold pathL
  rw [pathF, if_neg (by omega), pathF_fuel h 30 (m := 31) (by omega) (by omega) (by omega)]
theorem path_in {L : List StT} (h : chB L = true) : ∀ (n : Nat) {i : Int}, i < n → i < L.length → ∀ j ∈ pathL L i, 0 ≤ j ∧ j ≤ i
  | 0, i, h1, h2, j, hj => by rw [path_neg (by omega)] at hj; simp at hj
  | n + 1, i, h1, h2, j, hj => by
    by_cases h0 : i < 0
    · rw [path_neg h0] at hj; simp at hj
    · have hf := fr_lt h (i := i) (by omega)
      rw [path_step h (by omega)] at hj
      rcases List.mem_append.1 hj with hj | hj
      · have := path_in h n (i := (stAt L i).2.1) (by omega) (by omega) j hj
        omega
      · simp at hj; omega
theorem path_mem {L : List StT} (h : chB L = true) {i : Int} (h2 : i < L.length) : ∀ j ∈ pathL L i, 0 ≤ j ∧ j ≤ i := fun j hj => by
  by_cases h0 : i < 0
  · rw [path_neg h0] at hj; simp at hj
  · exact path_in h (i.toNat + 1) (by omega) h2 j hj
theorem path_len {L : List StT} (h : chB L = true) : ∀ (n : Nat) {i : Int}, i < n → i < L.length → ((pathL L i).length : Int) ≤ i + 1 ∨ i < 0
  | 0, i, h1, h2 => by right; omega
  | n + 1, i, h1, h2 => by
    by_cases h0 : i < 0
    · exact .inr h0
    · left
      have hf := fr_lt h (i := i) (by omega)
      rw [path_step h (by omega), List.length_append]
      rcases path_len h n (i := (stAt L i).2.1) (by omega) (by omega) with h3 | h3
      · simp; omega
      · rw [path_neg h3]; simp; omega
theorem path_30 {L : List StT} (h : chB L = true) {i : Int} (h2 : i < L.length) : (pathL L i).length ≤ 30 := by
  have hl := ch_len h
  by_cases h0 : i < 0
  · rw [path_neg h0]; simp
  · rcases path_len h (i.toNat + 1) (i := i) (by omega) h2 with h3 | h3 <;> omega
/-- What an option is, told by a value and a flag. -/
def Tol {α : Type} (o : Option α) (v : α) (bad : Bool) : Prop := (bad = true ∧ o = none) ∨ (bad = false ∧ o = some v)
theorem Tol.of (o : Option FrT) : Tol o (tv o) (!o.isSome) := by cases o with | none => exact .inl ⟨rfl, rfl⟩ | some v => exact .inr ⟨rfl, rfl⟩
def spV (a b : Option FrT) : SpT := (tv a, tv b)
def spO (a b : Option FrT) : Option SpT := a.bind fun x => b.bind fun y => some (x, y)
theorem sp_tol (a b : Option FrT) : Tol (spO a b) (spV a b) (!a.isSome || !b.isSome) := by
  cases a <;> cases b <;> simp [Tol, spO, spV, tv]
def plO (s t : SpT) : Option SpT := spO (adO s.1 t.1) (adO s.2 t.2)
def miO (s t : SpT) : Option SpT := spO (sbO s.1 t.2) (sbO s.2 t.1)
def wdO (s : SpT) (d : FrT) : Option SpT := spO (sbO s.1 d) (adO s.2 d)
def plV (s t : SpT) : SpT := spV (adO s.1 t.1) (adO s.2 t.2)
def miV (s t : SpT) : SpT := spV (sbO s.1 t.2) (sbO s.2 t.1)
def wdV (s : SpT) (d : FrT) : SpT := spV (sbO s.1 d) (adO s.2 d)
def smS (s : SpT) : Prop := smF s.1.1 s.1.2 ∧ smF s.2.1 s.2.2
theorem smS_pl (s t : SpT) : smS (plV s t) := ⟨smF_rO _ _, smF_rO _ _⟩
theorem smS_mi (s t : SpT) : smS (miV s t) := ⟨smF_rO _ _, smF_rO _ _⟩
theorem smS_wd (s : SpT) (d : FrT) : smS (wdV s d) := ⟨smF_rO _ _, smF_rO _ _⟩
theorem smS_ok {s : SpT} (h : spB s = true) : smS s := ⟨smF_ok (spB_f h).1, smF_ok (spB_f h).2.1⟩
theorem smS_0 : smS ((0, 1), 0, 1) := ⟨smF_1 (n := 0) (by omega), smF_1 (n := 0) (by omega)⟩
theorem spO_f {a b : Option FrT} {v : SpT} (h : spO a b = some v) : a = some v.1 ∧ b = some v.2 := by
  cases a <;> cases b <;> simp [spO] at h ⊢
  rw [← h]; exact ⟨rfl, rfl⟩
theorem smS_plO {s t v : SpT} (h : plO s t = some v) : smS v := ⟨smF_ok (rO_f (spO_f h).1), smF_ok (rO_f (spO_f h).2)⟩
theorem smS_miO {s t v : SpT} (h : miO s t = some v) : smS v := ⟨smF_ok (rO_f (spO_f h).1), smF_ok (rO_f (spO_f h).2)⟩
theorem smS_wdO {s v : SpT} {d : FrT} (h : wdO s d = some v) : smS v := ⟨smF_ok (rO_f (spO_f h).1), smF_ok (rO_f (spO_f h).2)⟩
/-- A span, wider by a drift on some days. -/
def drO (s : SpT) (d : FrT) (n : Int) : Option SpT := (muO d (n, 1)).bind fun m => wdO s m
def drV (s : SpT) (d : FrT) (n : Int) : SpT := wdV s (tv (muO d (n, 1)))
/-- One step along a path: to x, and on until a day. -/
def alO1 (s : SpT) (x : StT) (e : Int) : Option SpT := (plO s x.2.2.1).bind fun u => drO u x.2.2.2.1 (e - x.2.2.2.2.1)
def alV1 (s : SpT) (x : StT) (e : Int) : SpT := drV (plV s x.2.2.1) x.2.2.2.1 (e - x.2.2.2.2.1)
def alB1 (s : SpT) (x : StT) (e : Int) : Bool := (!(adO s.1 x.2.2.1.1).isSome || !(adO s.2 x.2.2.1.2).isSome) || (!(muO x.2.2.2.1 (e - x.2.2.2.2.1, 1)).isSome || (!(sbO (plV s x.2.2.1).1 (tv (muO x.2.2.2.1 (e - x.2.2.2.2.1, 1)))).isSome || !(adO (plV s x.2.2.1).2 (tv (muO x.2.2.2.1 (e - x.2.2.2.2.1, 1)))).isSome))
theorem al1_tol (s : SpT) (x : StT) (e : Int) : Tol (alO1 s x e) (alV1 s x e) (alB1 s x e) := by
  unfold alO1 alV1 alB1 drO drV
  rcases sp_tol (adO s.1 x.2.2.1.1) (adO s.2 x.2.2.1.2) with ⟨h1, h2⟩ | ⟨h1, h2⟩
  · rw [h1]; rw [show plO s x.2.2.1 = none from h2]; exact .inl ⟨rfl, rfl⟩
  · rw [h1]; rw [show plO s x.2.2.1 = some (plV s x.2.2.1) from h2, Option.bind_some]
    rcases Tol.of (muO x.2.2.2.1 (e - x.2.2.2.2.1, 1)) with ⟨h3, h4⟩ | ⟨h3, h4⟩
    · rw [h3, h4]; exact .inl ⟨rfl, rfl⟩
    · rw [h3]
      generalize muO x.2.2.2.1 (e - x.2.2.2.2.1, 1) = o at *
      rw [show (o.bind fun m => wdO (plV s x.2.2.1) m) = wdO (plV s x.2.2.1) (tv o) from by rw [h4]; rfl]
      exact sp_tol _ _
/-- The day on which a path goes on. -/
def nxD (L : List StT) (day : Int) : List Int → Int
  | [] => day
  | k :: _ => stMd (stAt L k)
def alO (L : List StT) (day : Int) : List Int → SpT → Option SpT
  | [], s => some s
  | i :: W, s => (alO1 s (stAt L i) (nxD L day W)).bind fun u => alO L day W u
def alT (L : List StT) (day : Int) : List Int → SpT × Bool → SpT × Bool
  | [], z => z
  | i :: W, z => alT L day W (alV1 z.1 (stAt L i) (nxD L day W), z.2 || alB1 z.1 (stAt L i) (nxD L day W))
theorem alT_bad (L : List StT) (day : Int) : ∀ (W : List Int) (z : SpT × Bool), z.2 = true → (alT L day W z).2 = true
  | [], z, h => h
  | i :: W, z, h => alT_bad L day W _ (by rw [h]; rfl)
theorem al_tol (L : List StT) (day : Int) : ∀ (W : List Int) (s : SpT), Tol (alO L day W s) (alT L day W (s, false)).1 (alT L day W (s, false)).2
  | [], s => .inr ⟨rfl, rfl⟩
  | i :: W, s => by
    rw [alO, alT]
    rcases al1_tol s (stAt L i) (nxD L day W) with ⟨h1, h2⟩ | ⟨h1, h2⟩
    · rw [h2, h1]
      exact .inl ⟨alT_bad L day W _ rfl, rfl⟩
    · rw [h2, h1, Option.bind_some]
      exact al_tol L day W _
theorem alT_or (L : List StT) (day : Int) : ∀ (W : List Int) (z : SpT × Bool), alT L day W z = ((alT L day W (z.1, false)).1, z.2 || (alT L day W (z.1, false)).2)
  | [], z => by simp [alT]
  | i :: W, z => by
    rw [alT, alT, alT_or L day W, alT_or L day W (_, false || _)]
    simp [Bool.or_assoc]
theorem smS_al1 (s : SpT) (x : StT) (e : Int) : smS (alV1 s x e) := smS_wd _ _
theorem smS_al (L : List StT) (day : Int) : ∀ (W : List Int) (z : SpT × Bool), smS z.1 → smS (alT L day W z).1
  | [], z, h => h
  | i :: W, z, h => smS_al L day W _ (smS_al1 _ _ _)
def zsS (o : Option SpT) : SpT := o.getD ((0, 0), 0, 0)
def oCS (o : Option SpT) : Int := if o.isSome = true then 0 else 3
theorem oCS_n {o : Option SpT} (h : ¬ oCS o = 0) : o = none := by cases o with | none => rfl | some v => simp [oCS] at h
theorem oCS_s {o : Option SpT} (h : oCS o = 0) : ∃ v, o = some v := by cases o with | none => simp [oCS] at h | some v => exact ⟨v, rfl⟩
theorem Tol.if {o : Option SpT} {v : SpT} {bad : Bool} (h : Tol o v bad) : (if bad = true then ((0, 0), 0, 0) else v) = zsS o ∧ (if bad = true then (3 : Int) else 0) = oCS o := by
  rcases h with ⟨h1, h2⟩ | ⟨h1, h2⟩ <;> (subst h1; subst h2; exact ⟨rfl, rfl⟩)
end Go.Proofs.Ytnmpgofhdjcpaaa.Eng
set_option linter.unusedVariables false
set_option linter.unusedSimpArgs false
namespace Go.Proofs.Ytnmpgofhdjcpaaa.Eng
open Go Go.RowKit
set_option maxRecDepth 100000
def smW (L : List Int) (t most : Int) : Int := (pickV L t (2 * most + 1) - most) * (20 / amV L (t + 1) [1, 1, 2, 4, 5, 10])
def nmL : List (List UInt8) := [[109, 101, 116, 114, 101], [98, 97, 114], [116, 97, 112, 101], [114, 111, 100], [121, 97, 114, 100], [101, 108, 108], [102, 111, 111, 116], [115, 112, 97, 110]]
def nmK (k : Nat) : List UInt8 := (nmL[k]?).getD []
def absI (x : Int) : Int := if x < 0 then -x else x
/-- The next standard: where the source then stands, and the standard. -/
def dwFr (L : List Int) (t : Int) (k : Nat) : Int := pickV L t ((k : Int) + 1) - 1
def dwT1 (t : Int) (k : Nat) : Int := pickA t ((k : Int) + 1)
def dwLo (L : List Int) (t : Int) : Int := smW L t 8
def dwHi (L : List Int) (t : Int) : Int := smW L t 8 + absI (smW L (t + 2) 6)
def dwDr (L : List Int) (t : Int) : Int := if pickV L t 2 = 0 then absI (smW L (pickA t 2) 3) else 0
def dwT3 (L : List Int) (t : Int) : Int := if pickV L t 2 = 0 then pickA t 2 + 2 else pickA t 2
def dwN60 (A : List StT) (f : Int) : Int := min (stAt A f).2.2.2.2.2 60 + 1
def dwMd (L : List Int) (t : Int) (A : List StT) (f : Int) : Int := if 0 ≤ f then (stAt A f).2.2.2.2.1 + pickV L (pickA t 20) (dwN60 A f) else pickV L t 20
def dwT5 (t : Int) (A : List StT) (f : Int) : Int := if 0 ≤ f then pickA (pickA t 20) (dwN60 A f) else pickA t 20
def dwGd (L : List Int) (t : Int) : Int := amV L t [0, 5, 30, 60, 100, 365]
def dwSt (L : List Int) (t : Int) (k : Nat) (A : List StT) : StT :=
  (nmK k, dwFr L t k, (tw (dwLo L (dwT1 t k)), tw (dwHi L (dwT1 t k))), tw (dwDr L (dwT1 t k + 4)), dwMd L (dwT3 L (dwT1 t k + 4)) A (dwFr L t k), dwGd L (dwT5 (dwT3 L (dwT1 t k + 4)) A (dwFr L t k)))
def dwTn (L : List Int) (t : Int) (k : Nat) (A : List StT) : Int := pickA (dwT5 (dwT3 L (dwT1 t k + 4)) A (dwFr L t k)) 6
def dwS (L : List Int) : Nat → Int × List StT
  | 0 => (1, [])
  | k + 1 => (dwTn L (dwS L k).1 k (dwS L k).2, (dwS L k).2 ++ [dwSt L (dwS L k).1 k (dwS L k).2])
def dwC (L : List Int) : Nat := (1 + pickV L 0 6).toNat
def dwCh (L : List Int) : List StT := (dwS L (dwC L)).2
theorem dwS_len (L : List Int) : ∀ k, (dwS L k).2.length = k
  | 0 => rfl
  | k + 1 => by simp [dwS, dwS_len L k]
def bytB (L : List Int) : Prop := ∀ a ∈ L, 0 ≤ a ∧ a ≤ (255 : Int)
theorem am_in {L : List Int} (h : bytB L) (t : Int) {l : List Int} (hl : 1 ≤ l.length) : amV L t l ∈ l := by
  obtain ⟨a, ha⟩ := pick_at h t hl
  unfold amV; rw [ha]; exact List.mem_of_getElem? ha
theorem dwC_b {L : List Int} (h : bytB L) : 1 ≤ dwC L ∧ dwC L ≤ 6 ∧ ((dwC L : Nat) : Int) = 1 + pickV L 0 6 := by
  have := pickV_b h 0 6
  have h2 := this.2 (by omega)
  unfold dwC; omega
theorem smW_b {L : List Int} (h : bytB L) {t most : Int} (hm : 0 ≤ most) : -20 * most ≤ smW L t most ∧ smW L t most ≤ 20 * most := by
  have h1 := pickV_b h t (2 * most + 1)
  have h2 := h1.2 (by omega)
  have h3 := am_in h (t + 1) (l := [1, 1, 2, 4, 5, 10]) (by decide)
  unfold smW
  generalize amV L (t + 1) [1, 1, 2, 4, 5, 10] = q at *
  generalize pickV L t (2 * most + 1) = p at *
  simp only [List.mem_cons, List.not_mem_nil, or_false] at h3
  rcases h3 with rfl | rfl | rfl | rfl | rfl | rfl <;> simp <;> omega
theorem smW_of {L : List Int} (h : bytB L) (t most : Int) : (pickV L t (2 * most + 1) - most) * 20 = smW L t most * amV L (t + 1) [1, 1, 2, 4, 5, 10] ∧ 1 ≤ amV L (t + 1) [1, 1, 2, 4, 5, 10] ∧ amV L (t + 1) [1, 1, 2, 4, 5, 10] ≤ 10 := by
  have h3 := am_in h (t + 1) (l := [1, 1, 2, 4, 5, 10]) (by decide)
  unfold smW
  generalize amV L (t + 1) [1, 1, 2, 4, 5, 10] = q at *
  generalize pickV L t (2 * most + 1) = p at *
  simp only [List.mem_cons, List.not_mem_nil, or_false] at h3
  rcases h3 with rfl | rfl | rfl | rfl | rfl | rfl <;> simp <;> omega
theorem absI_b {x m : Int} (h : -m ≤ x ∧ x ≤ m) : 0 ≤ absI x ∧ absI x ≤ m := by unfold absI; split <;> omega
/-- What holds of a drawn standard. -/
structure TwSt (A : List StT) (k : Nat) (a : StT) : Prop where
  nm : a.1 = nmK k
  fr : -1 ≤ a.2.1 ∧ a.2.1 < (k : Int)
  vl : ∃ lo hi, a.2.2.1 = (tw lo, tw hi) ∧ (-160 ≤ lo ∧ lo ≤ hi) ∧ hi ≤ 280
  dr : ∃ d, a.2.2.2.1 = tw d ∧ 0 ≤ d ∧ d ≤ 60
  md : 0 ≤ a.2.2.2.2.1 ∧ a.2.2.2.2.1 ≤ 20 + 60 * (k : Int)
  gd : 0 ≤ a.2.2.2.2.2 ∧ a.2.2.2.2.2 ≤ 365
  go : 0 ≤ a.2.1 → (stAt A a.2.1).2.2.2.2.1 ≤ a.2.2.2.2.1 ∧ a.2.2.2.2.1 ≤ (stAt A a.2.1).2.2.2.2.1 + (stAt A a.2.1).2.2.2.2.2
def TwCh (A : List StT) : Prop := ∀ (k : Nat) (a : StT), A[k]? = some a → TwSt A k a
theorem stAt_app {A B : List StT} {i : Int} (h : 0 ≤ i ∧ i < A.length) : stAt (A ++ B) i = stAt A i := by
  unfold stAt
  rw [List.getElem?_append_left (by omega)]
theorem dwS_tw {L : List Int} (h : bytB L) : ∀ k, TwCh (dwS L k).2
  | 0 => fun k a ha => by simp [dwS] at ha
  | k + 1 => by
    have ih := dwS_tw h k
    have hl := dwS_len L k
    intro j a ha
    simp only [dwS] at ha ⊢
    generalize hA : (dwS L k).2 = A at *
    generalize (dwS L k).1 = t at *
    by_cases hj : j < k
    · rw [List.getElem?_append_left (by omega)] at ha
      have g := ih j a ha
      refine ⟨g.nm, g.fr, g.vl, g.dr, g.md, g.gd, fun h0 => ?_⟩
      rw [stAt_app (by have := g.fr; omega)]
      exact g.go h0
    · have hjl := (List.getElem?_eq_some_iff.1 ha).1
      simp at hjl
      obtain rfl : j = k := by omega
      rw [List.getElem?_append_right (by omega), show j - A.length = 0 by omega] at ha
      simp only [List.getElem?_cons_zero, Option.some.injEq] at ha
      subst ha
      have f1 := pickV_b h t ((j : Int) + 1)
      have f2 := f1.2 (by omega)
      have hf : -1 ≤ dwFr L t j ∧ dwFr L t j < (j : Int) := by unfold dwFr; omega
      have hlo := smW_b h (t := dwT1 t j) (most := 8) (by decide)
      have hw := smW_b h (t := dwT1 t j + 2) (most := 6) (by decide)
      have hab := absI_b (x := smW L (dwT1 t j + 2) 6) (m := 120) (by omega)
      have hgd := am_in h (dwT5 (dwT3 L (dwT1 t j + 4)) A (dwFr L t j)) (l := [0, 5, 30, 60, 100, 365]) (by decide)
      have hpar : 0 ≤ dwFr L t j → ∃ p, stAt A (dwFr L t j) = p ∧ (0 ≤ p.2.2.2.2.1 ∧ p.2.2.2.2.1 ≤ 20 + 60 * ((j : Int) - 1)) ∧ 0 ≤ p.2.2.2.2.2 ∧ p.2.2.2.2.2 ≤ 365 := fun h0 => by
        obtain ⟨p, hp⟩ := get_some (l := A) (i := (dwFr L t j).toNat) (by omega)
        have g := ih _ _ hp
        refine ⟨p, stAt_z hp, ⟨g.md.1, ?_⟩, g.gd⟩
        have := g.md.2
        omega
      refine ⟨rfl, hf, ⟨_, _, rfl, ⟨by unfold dwLo; omega, by unfold dwLo dwHi; omega⟩, by unfold dwHi; omega⟩, ⟨_, rfl, ?_⟩, ?_, ?_, fun h0 => ?_⟩
      · unfold dwDr
        split
        · have := smW_b h (t := pickA (dwT1 t j + 4) 2) (most := 3) (by decide)
          have := absI_b (x := smW L (pickA (dwT1 t j + 4) 2) 3) (m := 60) (by omega)
          omega
        · omega
      · show 0 ≤ dwMd L (dwT3 L (dwT1 t j + 4)) A (dwFr L t j) ∧ dwMd L (dwT3 L (dwT1 t j + 4)) A (dwFr L t j) ≤ _
        unfold dwMd
        by_cases h0 : 0 ≤ dwFr L t j
        · rw [if_pos h0]
          obtain ⟨p, hp, h1, h2⟩ := hpar h0
          have g1 := pickV_b h (pickA (dwT3 L (dwT1 t j + 4)) 20) (dwN60 A (dwFr L t j))
          have g2 := g1.2 (by unfold dwN60; rw [hp]; omega)
          have g3 : dwN60 A (dwFr L t j) ≤ 61 := by unfold dwN60; omega
          rw [hp]; omega
        · rw [if_neg h0]
          have g1 := pickV_b h (dwT3 L (dwT1 t j + 4)) 20
          have g2 := g1.2 (by decide)
          omega
      · show 0 ≤ dwGd L _ ∧ dwGd L _ ≤ 365
        unfold dwGd
        generalize amV L _ [0, 5, 30, 60, 100, 365] = q at *
        simp only [List.mem_cons, List.not_mem_nil, or_false] at hgd
        omega
      · have h0 : 0 ≤ dwFr L t j := h0
        show (stAt (A ++ _) (dwFr L t j)).2.2.2.2.1 ≤ dwMd L (dwT3 L (dwT1 t j + 4)) A (dwFr L t j) ∧ dwMd L (dwT3 L (dwT1 t j + 4)) A (dwFr L t j) ≤ (stAt (A ++ _) (dwFr L t j)).2.2.2.2.1 + (stAt (A ++ _) (dwFr L t j)).2.2.2.2.2
        rw [stAt_app (by omega)]
        unfold dwMd
        rw [if_pos h0]
        obtain ⟨p, hp, h1, h2⟩ := hpar h0
        have g1 := pickV_b h (pickA (dwT3 L (dwT1 t j + 4)) 20) (dwN60 A (dwFr L t j))
        have g2 := g1.2 (by unfold dwN60; rw [hp]; omega)
        have g3 : dwN60 A (dwFr L t j) ≤ (stAt A (dwFr L t j)).2.2.2.2.2 + 1 := by unfold dwN60; omega
        omega
theorem nm_word : ∀ k, k < 8 → wordB (nmK k) = true := by decide
theorem nm_inj : ∀ i, i < 8 → ∀ j, j < 8 → nmK i = nmK j → i = j := by decide
/-- A drawn chain is valid. -/
theorem tw_valid {A : List StT} (h : TwCh A) (hl : A.length ≤ 8) : chB A = true := by
  rw [ch_yes (fun k a ha => ?_)]
  · exact decide_eq_true (by omega)
  · have hk := (List.getElem?_eq_some_iff.1 ha).1
    have g := h k a ha
    obtain ⟨lo, hi, hv, ⟨v1, v2⟩, v3⟩ := g.vl
    obtain ⟨d, hd, d1, d2⟩ := g.dr
    have e1 : s1B A k a = true := by
      unfold s1B
      rw [g.nm, nm_word k (by omega), Bool.true_and, Bool.not_eq_true', List.any_eq_false]
      intro o ho
      obtain ⟨j, hj⟩ := List.getElem?_of_mem ho
      rw [List.getElem?_take] at hj
      split at hj
      · rename_i hjk
        have := (h j o hj).nm
        simp only [decide_eq_true_eq]
        intro e
        rw [this] at e
        have := nm_inj j (by omega) k (by omega) e
        omega
      · cases hj
    have e2 : s2B a = true := by
      unfold s2B spB dyB
      rw [hv, hd]
      have q1 := tw_ok (x := lo) (by omega)
      have q2 := tw_ok (x := hi) (by omega)
      have q3 := tw_ok (x := d) (by omega)
      have q4 := (tw_le lo hi).2 v2
      have q5 := (tw_sgn d).2.2 d1
      have q6 : spOk (tw lo).1 (tw lo).2 (tw hi).1 (tw hi).2 = true := spOk_iff.2 ⟨q1, q2, q4⟩
      have := g.md
      have := g.gd
      simp only [q6, q3, Bool.true_and, Bool.and_eq_true, decide_eq_true_eq]
      exact ⟨⟨q5, by omega⟩, by omega⟩
    have e3 : s3B A k a = true := by
      unfold s3B gdB
      have hf := g.fr
      rw [decide_eq_true (show -1 ≤ a.2.1 ∧ a.2.1 ≤ (k : Int) - 1 by omega), Bool.true_and, Bool.or_eq_true]
      by_cases h0 : a.2.1 < 0
      · left; exact decide_eq_true h0
      · right; exact decide_eq_true (g.go (by omega))
    unfold stB
    rw [e1, e2, e3]; rfl
theorem dwCh_ok {L : List Int} (h : bytB L) : TwCh (dwCh L) ∧ chB (dwCh L) = true ∧ (dwCh L).length = dwC L := by
  have hc := dwC_b h
  have hl := dwS_len L (dwC L)
  exact ⟨dwS_tw h _, tw_valid (dwS_tw h _) (by show (dwS L (dwC L)).2.length ≤ 8; rw [hl]; omega), hl⟩
end Go.Proofs.Ytnmpgofhdjcpaaa.Eng
set_option linter.unusedVariables false
set_option linter.unusedSimpArgs false
namespace Go.Proofs.Ytnmpgofhdjcpaaa.Eng
open Go Go.RowKit
set_option maxRecDepth 100000
def s_good : Spec := fun args S => match args, S with
  | [.agg [.str nm, .int .i64 fr, .int .i64 p, .int .i64 q, .int .i64 p', .int .i64 q', .int .i64 dp, .int .i64 dq, .int .i64 md, .int .i64 gd], .int .i64 d], [] => ⟨(0 ≤ md ∧ md ≤ 100000) ∧ 0 ≤ gd ∧ gd ≤ 100000, .bool (gdB (nm, fr, ((p, q), p', q'), (dp, dq), md, gd) d), []⟩
  | _, _ => noSpec
theorem ok_good : SpecOk Try.prog 38 s_good := by
  intro args S h; unfold s_good at h ⊢; (split at h <;> first | exact False.elim h | skip)
  dsimp only at h ⊢
  refine funW tabOk (E := [(71, s_within)]) ⟨ok_within, trivial⟩ [] (k := 0) (fn := Try.f38) rfl rfl rfl rfl rfl rfl ?_
  (repeat' ((try (conv => whnf)); first | (with_reducible first | refine And.intro ?_ ?_ | refine WX.of ?_) | exact zc | ((with_reducible refine VC.mk ?_); exact zw) | (with_reducible first | refine splitT ?_ | refine splitF ?_) | ((with_reducible refine splitM.mk (fun hsm => ?_) (fun hsm => ?_)) <;> (try exact zx)) | ((with_reducible refine splitB.mk (fun h => ?_) (fun h => ?_)) <;> (try simp only [zs, ne_eq] at h) <;> (try simp (disch := omega) only [w64] at h) <;> (try exact zx)) | (with_reducible intro hz; (try exact absurd hz (Nat.succ_ne_zero _)))))
  all_goals (refine ⟨?_⟩; simp (disch := omega) only [w64]; rfl)
theorem bd2 {a b : Int} (h : (0 ≤ a ∧ a ≤ 100000) ∧ 0 ≤ b ∧ b ≤ 100000) : (0 ≤ a ∧ a ≤ 100000) ∧ 0 ≤ b ∧ b ≤ 100000 := h
def s_l05Good : Spec := fun args S => match args, S with
  | [.ptr 0 i 0, .int .i64 d], [.arr (.prod .str (.prod (.int .i64) (.prod (.prod (.prod (.int .i64) (.int .i64)) (.prod (.int .i64) (.int .i64))) (.prod (.prod (.int .i64) (.int .i64)) (.prod (.int .i64) (.int .i64)))))) l 10 wr] => ⟨i < l.length ∧ (0 ≤ ((l[i]?).getD stD).2.2.2.2.1 ∧ ((l[i]?).getD stD).2.2.2.2.1 ≤ 100000) ∧ 0 ≤ ((l[i]?).getD stD).2.2.2.2.2 ∧ ((l[i]?).getD stD).2.2.2.2.2 ≤ 100000, .bool (gdB ((l[i]?).getD stD) d), [.arr (.prod .str (.prod (.int .i64) (.prod (.prod (.prod (.int .i64) (.int .i64)) (.prod (.int .i64) (.int .i64))) (.prod (.prod (.int .i64) (.int .i64)) (.prod (.int .i64) (.int .i64)))))) l 10 wr]⟩
  | _, _ => noSpec
theorem ok_l05Good : SpecOk Try.prog 68 s_l05Good := by
  intro args S h; unfold s_l05Good at h ⊢; (split at h <;> first | exact False.elim h | skip)
  dsimp only at h ⊢
  rename_i i d l wr
  obtain ⟨hi, hb⟩ := h
  obtain ⟨⟨nm, fr, ⟨⟨p, q⟩, p', q'⟩, ⟨dp, dq⟩, md, gd⟩, ha⟩ := get_some hi
  rw [show (l[i]?).getD stD = (nm, fr, ((p, q), p', q'), (dp, dq), md, gd) from by rw [ha]; rfl] at hb ⊢
  have hb := bd2 hb
  dsimp only at hb
  refine funW tabOk (E := []) trivial [] (k := 1) (fn := Try.f68) rfl rfl rfl rfl rfl rfl ?_
  (repeat' ((try (conv => whnf)); first | (with_reducible first | refine And.intro ?_ ?_ | refine WX.of ?_) | exact zc | ((with_reducible refine VC.mk ?_); exact zw) | with_reducible refine atL_p ha ?_ | (with_reducible first | refine splitT ?_ | refine splitF ?_) | ((with_reducible refine splitM.mk (fun hsm => ?_) (fun hsm => ?_)) <;> (try exact zx)) | ((with_reducible refine splitB.mk (fun h => ?_) (fun h => ?_)) <;> (try simp only [zs, ne_eq] at h) <;> (try simp (disch := omega) only [w64] at h) <;> (try exact zx)) | (with_reducible intro hz; (try exact absurd hz (Nat.succ_ne_zero _)))))
  all_goals (refine ⟨congrArg SV.bool ?_⟩; unfold gdB; (try simp (disch := omega) only [w64]); first | (simp; omega) | (rw [Bool.eq_iff_iff]; simp; omega))
def s_l05Day : Spec := fun args S => match args, S with
  | [.int .i64 d], [] => ⟨True, .bool (dyB d), []⟩
  | _, _ => noSpec
theorem ok_l05Day : SpecOk Try.prog 67 s_l05Day := by
  intro args S h; unfold s_l05Day at h ⊢; (split at h <;> first | exact False.elim h | skip)
  dsimp only at h ⊢
  refine funW tabOk (E := [(102, s_within)]) ⟨ok_l00In, trivial⟩ [] (k := 0) (fn := Try.f67) rfl rfl rfl rfl rfl rfl ?_
  (repeat' ((try (conv => whnf)); first | (with_reducible first | refine And.intro ?_ ?_ | refine WX.of ?_) | exact zc | ((with_reducible refine VC.mk ?_); exact zw) | (with_reducible first | refine splitT ?_ | refine splitF ?_) | ((with_reducible refine splitM.mk (fun hsm => ?_) (fun hsm => ?_)) <;> (try exact zx)) | ((with_reducible refine splitB.mk (fun h => ?_) (fun h => ?_)) <;> (try simp only [zs, ne_eq] at h) <;> (try simp (disch := omega) only [w64] at h) <;> (try exact zx)) | (with_reducible intro hz; (try exact absurd hz (Nat.succ_ne_zero _)))))
/-- The span of a standard, by its pointer. -/
def s_l01SpanV : Spec := fun args S => match args, S with
  | [.ptr 0 i 2], [.arr (.prod .str (.prod (.int .i64) (.prod (.prod (.prod (.int .i64) (.int .i64)) (.prod (.int .i64) (.int .i64))) (.prod (.prod (.int .i64) (.int .i64)) (.prod (.int .i64) (.int .i64)))))) l 10 wr] => ⟨i < l.length, .bool (spB ((l[i]?).getD stD).2.2.1), [.arr (.prod .str (.prod (.int .i64) (.prod (.prod (.prod (.int .i64) (.int .i64)) (.prod (.int .i64) (.int .i64))) (.prod (.prod (.int .i64) (.int .i64)) (.prod (.int .i64) (.int .i64)))))) l 10 wr]⟩
  | _, _ => noSpec
theorem ok_l01SpanV : SpecOk Try.prog 128 s_l01SpanV := by
  intro args S h; unfold s_l01SpanV at h ⊢; (split at h <;> first | exact False.elim h | skip)
  dsimp only at h ⊢
  rename_i i l wr
  obtain ⟨⟨nm, fr, ⟨⟨p, q⟩, p', q'⟩, ⟨dp, dq⟩, md, gd⟩, ha⟩ := get_some h
  rw [show (l[i]?).getD stD = (nm, fr, ((p, q), p', q'), (dp, dq), md, gd) from by rw [ha]; rfl]
  have hc := cmpF_le (p := p) (q := q) (p' := p') (q' := q')
  refine funW tabOk (E := [(129, s_fOk), (136, s_cmp)]) ⟨ok_l01Ok, ok_l01Cmp, trivial⟩ [] (k := 1) (fn := Try.f128) rfl rfl rfl rfl rfl rfl ?_
  (repeat' ((try (conv => whnf)); first | (with_reducible first | refine And.intro ?_ ?_ | refine WX.of ?_) | exact zc | ((with_reducible refine VC.mk ?_); exact zw) | with_reducible refine atL_p ha ?_ | (with_reducible first | refine splitT ?_ | refine splitF ?_) | ((with_reducible refine splitM.mk (fun hsm => ?_) (fun hsm => ?_)) <;> (try exact zx)) | ((with_reducible refine splitB.mk (fun h => ?_) (fun h => ?_)) <;> (try simp only [zs, ne_eq] at h) <;> (try simp (disch := omega) only [w64] at h) <;> (try exact zx)) | (with_reducible intro hz; (try exact absurd hz (Nat.succ_ne_zero _)))))
  · rename_i h1
    exact ⟨⟨smF_ok h1, smF_ok h⟩⟩
  · rename_i h1
    exact ⟨congrArg SV.bool (by unfold spB spOk; dsimp only; rw [h1, h]; simp only [hc, Bool.true_and])⟩
  · rename_i h1
    exact ⟨congrArg SV.bool (by unfold spB spOk; dsimp only; rw [h1, h]; rfl)⟩
  · exact ⟨congrArg SV.bool (by unfold spB spOk; dsimp only; rw [h]; rfl)⟩
def s_clCh : Spec := fun args S => match args, S with
  | [.agg [.str nm, .int .i64 fr, .int .i64 p, .int .i64 q, .int .i64 p', .int .i64 q', .int .i64 dp, .int .i64 dq, .int .i64 md, .int .i64 gd], .ptr 0 0 0], [.arr (.prod .str (.prod (.int .i64) (.prod (.prod (.prod (.int .i64) (.int .i64)) (.prod (.int .i64) (.int .i64))) (.prod (.prod (.int .i64) (.int .i64)) (.prod (.int .i64) (.int .i64)))))) [o] 0 true] => ⟨True, .bool (decide (nm = o.1)), [.arr (.prod .str (.prod (.int .i64) (.prod (.prod (.prod (.int .i64) (.int .i64)) (.prod (.int .i64) (.int .i64))) (.prod (.prod (.int .i64) (.int .i64)) (.prod (.int .i64) (.int .i64)))))) [o] 0 true]⟩
  | _, _ => noSpec
theorem ok_ValidChain1 : SpecOk Try.prog 119 s_clCh := by
  intro args S h; unfold s_clCh at h ⊢; (split at h <;> first | exact False.elim h | skip)
  dsimp only at h ⊢
  refine funW tabOk (E := []) trivial [] (k := 1) (fn := Try.f119) rfl rfl rfl rfl rfl rfl ?_
  (repeat' ((try (conv => whnf)); first | (with_reducible first | refine And.intro ?_ ?_ | refine WX.of ?_) | exact zc | ((with_reducible refine VC.mk ?_); exact zw) | (with_reducible first | refine splitT ?_ | refine splitF ?_) | ((with_reducible refine splitM.mk (fun hsm => ?_) (fun hsm => ?_)) <;> (try exact zx)) | ((with_reducible refine splitB.mk (fun h => ?_) (fun h => ?_)) <;> (try simp only [zs, ne_eq] at h) <;> (try simp (disch := omega) only [w64] at h) <;> (try exact zx)) | (with_reducible intro hz; (try exact absurd hz (Nat.succ_ne_zero _)))))
def s_idxCh (g : Nat) : Spec := fun args S => match args, S with
  | [.sl 0 q0 n0 x0, .fn g' [.ptr 1 0 0]], [.arr (.prod .str (.prod (.int .i64) (.prod (.prod (.prod (.int .i64) (.int .i64)) (.prod (.int .i64) (.int .i64))) (.prod (.prod (.int .i64) (.int .i64)) (.prod (.int .i64) (.int .i64)))))) l0 10 wr0, .arr (.prod .str (.prod (.int .i64) (.prod (.prod (.prod (.int .i64) (.int .i64)) (.prod (.int .i64) (.int .i64))) (.prod (.prod (.int .i64) (.int .i64)) (.prod (.int .i64) (.int .i64)))))) [o] 0 true] => ⟨g' = g ∧ (q0 + n0 ≤ l0.length ∧ n0 ≤ 4611686018427387904) ∧ True, .int .i64 (findI (fun a : StT => decide (a.1 = o.1)) (seg l0 q0 n0)), [.arr (.prod .str (.prod (.int .i64) (.prod (.prod (.prod (.int .i64) (.int .i64)) (.prod (.int .i64) (.int .i64))) (.prod (.prod (.int .i64) (.int .i64)) (.prod (.int .i64) (.int .i64)))))) l0 10 wr0, .arr (.prod .str (.prod (.int .i64) (.prod (.prod (.prod (.int .i64) (.int .i64)) (.prod (.int .i64) (.int .i64))) (.prod (.prod (.int .i64) (.int .i64)) (.prod (.int .i64) (.int .i64)))))) [o] 0 true]⟩
  | _, _ => noSpec
theorem ok_idxCh : SpecOk Try.prog 133 (s_idxCh 119) := by
  intro args S h; unfold s_idxCh at h ⊢; (split at h <;> first | exact False.elim h | skip)
  dsimp only at h ⊢
  rename_i q0 n0 x0 g l0 wr0 o
  obtain ⟨rfl, ⟨h1, h2⟩, hcp⟩ := h
  have hL := seg_len h1
  refine funW tabOk (E := [(119, s_clCh)]) ⟨ok_ValidChain1, trivial⟩ [] (k := 2) (fn := Try.f133) rfl rfl rfl rfl rfl rfl ?_
  (repeat' ((try (conv => whnf)); first | (with_reducible first | refine And.intro ?_ ?_ | refine WX.of ?_) | exact zc | ((with_reducible refine VC.mk ?_); exact zw) | (with_reducible first | refine splitT ?_ | refine splitF ?_) | ((with_reducible refine splitM.mk (fun hsm => ?_) (fun hsm => ?_)) <;> (try exact zx)) | ((with_reducible refine splitB.mk (fun h => ?_) (fun h => ?_)) <;> (try simp only [zs, ne_eq] at h) <;> (try simp (disch := omega) only [w64] at h) <;> (try exact zx)) | (with_reducible intro hz; (try exact absurd hz (Nat.succ_ne_zero _)))))
  refine loopW tabOk (E := [(119, s_clCh)]) ⟨ok_ValidChain1, trivial⟩ [] (σ := Nat) (fun i => [(0, .sl 0 q0 n0 x0), (1, .fn 119 [.ptr 1 0 0]), (7, .int .i64 n0), (8, .int .i64 i)]) (fun i => [.arr (.prod .str (.prod (.int .i64) (.prod (.prod (.prod (.int .i64) (.int .i64)) (.prod (.int .i64) (.int .i64))) (.prod (.prod (.int .i64) (.int .i64)) (.prod (.int .i64) (.int .i64)))))) l0 10 wr0, .arr (.prod .str (.prod (.int .i64) (.prod (.prod (.prod (.int .i64) (.int .i64)) (.prod (.int .i64) (.int .i64))) (.prod (.prod (.int .i64) (.int .i64)) (.prod (.int .i64) (.int .i64)))))) [o] 0 true]) (fun i => n0 - i) (fun i => i ≤ n0 ∧ ∀ (j : Nat) a, j < i → (seg l0 q0 n0)[j]? = some a → (fun a : StT => decide (a.1 = o.1)) a = false) 0 ⟨Nat.zero_le _, fun j a hj => by omega⟩ ?_ ?_
  · (repeat' ((try (conv => whnf)); first | (with_reducible first | refine And.intro ?_ ?_ | refine WX.of ?_) | exact zc | ((with_reducible refine VC.mk ?_); exact zw) | (with_reducible first | refine splitT ?_ | refine splitF ?_) | ((with_reducible refine splitM.mk (fun hsm => ?_) (fun hsm => ?_)) <;> (try exact zx)) | ((with_reducible refine splitB.mk (fun h => ?_) (fun h => ?_)) <;> (try simp only [zs, ne_eq] at h) <;> (try simp (disch := omega) only [w64] at h) <;> (try exact zx)) | (with_reducible intro hz; (try exact absurd hz (Nat.succ_ne_zero _)))))
  · intro ii ⟨hi, hp⟩
    by_cases hlt : ii < n0
    · obtain ⟨⟨nm, fr, ⟨⟨p, q⟩, p', q'⟩, ⟨dp, dq⟩, md, gd⟩, ha⟩ := get_some (l := seg l0 q0 n0) (i := ii) (by omega)
      (repeat' ((try (conv => whnf)); first | (with_reducible first | refine And.intro ?_ ?_ | refine WX.of ?_) | exact zc | ((with_reducible refine VC.mk ?_); exact zw) | refine atL_i ha ?_ | ((with_reducible refine VC.mk ?_); exact hcp) | (with_reducible first | refine splitT ?_ | refine splitF ?_) | ((with_reducible refine splitM.mk (fun hsm => ?_) (fun hsm => ?_)) <;> (try exact zx)) | ((with_reducible refine splitB.mk (fun h => ?_) (fun h => ?_)) <;> (try simp only [zs, ne_eq] at h) <;> (try simp (disch := omega) only [w64] at h) <;> (try exact zx)) | (with_reducible intro hz; (try exact absurd hz (Nat.succ_ne_zero _)))))
      · exact ⟨by rw [findI_some ha (by first | (simpa [decide_eq_true_eq] using h; done) | (simp [decide_eq_true_eq] at h ⊢; omega)) hp]⟩
      · refine ⟨ii + 1, by omega, ⟨hlt, upto_step ha (by first | (simpa [decide_eq_true_eq] using h; done) | (simp [decide_eq_true_eq] at h ⊢; omega)) hp⟩, ?_⟩
        (repeat' ((try (conv => whnf)); first | (with_reducible first | refine And.intro ?_ ?_ | refine WX.of ?_) | exact zc | ((with_reducible refine VC.mk ?_); exact zw) | (with_reducible first | refine splitT ?_ | refine splitF ?_) | ((with_reducible refine splitM.mk (fun hsm => ?_) (fun hsm => ?_)) <;> (try exact zx)) | ((with_reducible refine splitB.mk (fun h => ?_) (fun h => ?_)) <;> (try simp only [zs, ne_eq] at h) <;> (try simp (disch := omega) only [w64] at h) <;> (try exact zx)) | (with_reducible intro hz; (try exact absurd hz (Nat.succ_ne_zero _)))))
    · (repeat' ((try (conv => whnf)); first | (with_reducible first | refine And.intro ?_ ?_ | refine WX.of ?_) | exact zc | ((with_reducible refine VC.mk ?_); exact zw) | (with_reducible first | refine splitT ?_ | refine splitF ?_) | ((with_reducible refine splitM.mk (fun hsm => ?_) (fun hsm => ?_)) <;> (try exact zx)) | ((with_reducible refine splitB.mk (fun h => ?_) (fun h => ?_)) <;> (try simp only [zs, ne_eq] at h) <;> (try simp (disch := omega) only [w64] at h) <;> (try exact zx)) | (with_reducible intro hz; (try exact absurd hz (Nat.succ_ne_zero _)))))
      exact ⟨by rw [findI_none fun j a hj => hp j a (by have := (List.getElem?_eq_some_iff.1 hj).1; omega) hj]⟩
def s_anyCh (g : Nat) : Spec := fun args S => match args, S with
  | [.sl 0 q0 n0 x0, .fn g' [.ptr 1 0 0]], [.arr (.prod .str (.prod (.int .i64) (.prod (.prod (.prod (.int .i64) (.int .i64)) (.prod (.int .i64) (.int .i64))) (.prod (.prod (.int .i64) (.int .i64)) (.prod (.int .i64) (.int .i64)))))) l0 10 wr0, .arr (.prod .str (.prod (.int .i64) (.prod (.prod (.prod (.int .i64) (.int .i64)) (.prod (.int .i64) (.int .i64))) (.prod (.prod (.int .i64) (.int .i64)) (.prod (.int .i64) (.int .i64)))))) [o] 0 true] => ⟨g' = g ∧ (q0 + n0 ≤ l0.length ∧ n0 ≤ 4611686018427387904) ∧ True, .bool ((seg l0 q0 n0).any (fun a : StT => decide (a.1 = o.1))), [.arr (.prod .str (.prod (.int .i64) (.prod (.prod (.prod (.int .i64) (.int .i64)) (.prod (.int .i64) (.int .i64))) (.prod (.prod (.int .i64) (.int .i64)) (.prod (.int .i64) (.int .i64)))))) l0 10 wr0, .arr (.prod .str (.prod (.int .i64) (.prod (.prod (.prod (.int .i64) (.int .i64)) (.prod (.int .i64) (.int .i64))) (.prod (.prod (.int .i64) (.int .i64)) (.prod (.int .i64) (.int .i64)))))) [o] 0 true]⟩
  | _, _ => noSpec
theorem ok_anyCh : SpecOk Try.prog 118 (s_anyCh 119) := by
  intro args S h; unfold s_anyCh at h ⊢; (split at h <;> first | exact False.elim h | skip)
  dsimp only at h ⊢
  rename_i q0 n0 x0 g l0 wr0 o
  obtain ⟨rfl, h1, h2⟩ := h
  refine funW tabOk (E := [(133, (s_idxCh 119))]) ⟨ok_idxCh, trivial⟩ [] (k := 2) (fn := Try.f118) rfl rfl rfl rfl rfl rfl ?_
  (repeat' ((try (conv => whnf)); first | (with_reducible first | refine And.intro ?_ ?_ | refine WX.of ?_) | exact zc | ((with_reducible refine VC.mk ?_); exact zw) | ((with_reducible refine VC.mk ?_); exact ⟨rfl, h1, h2⟩) | (with_reducible first | refine splitT ?_ | refine splitF ?_) | ((with_reducible refine splitM.mk (fun hsm => ?_) (fun hsm => ?_)) <;> (try exact zx)) | ((with_reducible refine splitB.mk (fun h => ?_) (fun h => ?_)) <;> (try simp only [zs, ne_eq] at h) <;> (try simp (disch := omega) only [w64] at h) <;> (try exact zx)) | (with_reducible intro hz; (try exact absurd hz (Nat.succ_ne_zero _)))))
  exact ⟨by rw [findI_any]⟩
theorem s3_take {L : List StT} {i : Nat} {x : StT} (hi : i ≤ L.length) : s3B (L.take i) i x = s3B L i x := by
  unfold s3B
  by_cases h : -1 ≤ x.2.1 ∧ x.2.1 ≤ (i : Int) - 1
  · by_cases h0 : x.2.1 < 0
    · simp [h0]
    · have : stAt (L.take i) x.2.1 = stAt L x.2.1 := by
        unfold stAt; rw [List.getElem?_take, if_pos (by omega)]
      rw [this]
  · simp [h]
/-- A standard behind n others. -/
def s_l05Std : Spec := fun args S => match args, S with
  | [.sl 0 s n x, .ptr 0 i 0], [.arr (.prod .str (.prod (.int .i64) (.prod (.prod (.prod (.int .i64) (.int .i64)) (.prod (.int .i64) (.int .i64))) (.prod (.prod (.int .i64) (.int .i64)) (.prod (.int .i64) (.int .i64)))))) l 10 wr] => ⟨s + n ≤ l.length ∧ n ≤ 1048576 ∧ i < l.length ∧ ∀ (j : Nat) (a : StT), (seg l s n)[j]? = some a → s2B a = true, .bool (s2B ((l[i]?).getD stD) && s3B (seg l s n) n ((l[i]?).getD stD)), [.arr (.prod .str (.prod (.int .i64) (.prod (.prod (.prod (.int .i64) (.int .i64)) (.prod (.int .i64) (.int .i64))) (.prod (.prod (.int .i64) (.int .i64)) (.prod (.int .i64) (.int .i64)))))) l 10 wr]⟩
  | _, _ => noSpec
theorem s2_of {x : StT} (h : s2B x = true) : (0 ≤ x.2.2.2.2.1 ∧ x.2.2.2.2.1 ≤ 100000) ∧ 0 ≤ x.2.2.2.2.2 ∧ x.2.2.2.2.2 ≤ 100000 := by
  unfold s2B dyB at h; simp only [Bool.and_eq_true, decide_eq_true_eq] at h; exact ⟨h.1.2, h.2⟩
theorem in_em (a : Int) (n : Nat) : (0 ≤ a ∧ a ≤ (n : Int) - 1) ∨ ¬ (0 ≤ a ∧ a ≤ (n : Int) - 1) := Decidable.em _
theorem s3_neg {L : List StT} {n : Nat} {x : StT} (h : x.2.1 = -1) : s3B L n x = true := by
  unfold s3B
  rw [decide_eq_true (show -1 ≤ x.2.1 ∧ x.2.1 ≤ (n : Int) - 1 from ⟨by omega, by omega⟩), decide_eq_true (show x.2.1 < 0 by omega)]; rfl
theorem s3_in {L : List StT} {n : Nat} {x : StT} (h : 0 ≤ x.2.1 ∧ x.2.1 ≤ (n : Int) - 1) : s3B L n x = gdB (stAt L x.2.1) x.2.2.2.2.1 := by
  unfold s3B
  rw [decide_eq_true (show -1 ≤ x.2.1 ∧ x.2.1 ≤ (n : Int) - 1 from ⟨by omega, by omega⟩), decide_eq_false (show ¬ x.2.1 < 0 by omega)]; rfl
theorem s3_out {L : List StT} {n : Nat} {x : StT} (h : ¬ x.2.1 = -1) (h2 : ¬ (0 ≤ x.2.1 ∧ x.2.1 ≤ (n : Int) - 1)) : s3B L n x = false := by
  unfold s3B
  rw [decide_eq_false (show ¬ (-1 ≤ x.2.1 ∧ x.2.1 ≤ (n : Int) - 1) by omega)]; rfl
theorem ok_l05Standard : SpecOk Try.prog 108 s_l05Std := by
  intro args S h; unfold s_l05Std at h ⊢; (split at h <;> first | exact False.elim h | skip)
  dsimp only at h ⊢
  rename_i s n x i l wr
  obtain ⟨h1, h2, hi, hb⟩ := h
  have hL := seg_len h1
  obtain ⟨⟨nm, fr, ⟨⟨p, q⟩, p', q'⟩, ⟨dp, dq⟩, md, gd⟩, ha⟩ := get_some hi
  have e : (l[i]?).getD stD = (nm, fr, ((p, q), p', q'), (dp, dq), md, gd) := by rw [ha]; rfl
  have hsp : spB ((l[i]?).getD stD).2.2.1 = spB ((p, q), p', q') := by rw [e]
  rcases in_em fr n with hin | hin
  · obtain ⟨y, hy⟩ := get_some (l := seg l s n) (i := fr.toNat) (by omega)
    have hyb := s2_of (hb _ _ hy)
    have hyl := (seg_get hy).1
    have hey : (l[s + fr.toNat]?).getD stD = y := by rw [hyl]; rfl
    have hay : stAt (seg l s n) fr = y := stAt_z hy
    have h3 : s3B (seg l s n) n (nm, fr, ((p, q), p', q'), (dp, dq), md, gd) = gdB y md := by rw [s3_in (by exact hin)]; dsimp only; rw [hay]
    rw [e]
    refine funW tabOk (E := [(128, s_l01SpanV), (129, s_fOk), (67, s_l05Day), (102, s_within), (68, s_l05Good)]) ⟨ok_l01SpanV, ok_l01Ok, ok_l05Day, ok_l00In, ok_l05Good, trivial⟩ [] (k := 1) (fn := Try.f108) rfl rfl rfl rfl rfl rfl ?_
    (repeat' ((try (conv => whnf)); first | (with_reducible first | refine And.intro ?_ ?_ | refine WX.of ?_) | exact zc | ((with_reducible refine VC.mk ?_); exact zw) | with_reducible refine atL_p ha ?_ | ((with_reducible refine VC.mk ?_); exact ⟨(List.getElem?_eq_some_iff.1 hyl).1, by rw [hey]; exact hyb⟩) | (with_reducible first | refine splitT ?_ | refine splitF ?_) | ((with_reducible refine splitM.mk (fun hsm => ?_) (fun hsm => ?_)) <;> (try exact zx)) | ((with_reducible refine splitB.mk (fun h => ?_) (fun h => ?_)) <;> (try simp only [zs, ne_eq] at h) <;> (try simp (disch := omega) only [w64] at h) <;> (try exact zx)) | (with_reducible intro hz; (try exact absurd hz (Nat.succ_ne_zero _)))))
    all_goals (refine ⟨congrArg SV.bool ?_⟩; (try rw [hsp] at *); (try dsimp only at *); rw [h3]; (try rw [hey]); first | (exfalso; omega) | (unfold s2B; dsimp only; simp [*]; done) | (unfold s2B; dsimp only; simp [*]; intros; omega))
  · have h3 : s3B (seg l s n) n (nm, fr, ((p, q), p', q'), (dp, dq), md, gd) = decide (fr = -1) := by
      by_cases h4 : fr = -1
      · rw [s3_neg (by exact h4), decide_eq_true h4]
      · rw [s3_out (by exact h4) (by exact hin), decide_eq_false h4]
    rw [e]
    refine funW tabOk (E := [(128, s_l01SpanV), (129, s_fOk), (67, s_l05Day), (102, s_within), (68, s_l05Good)]) ⟨ok_l01SpanV, ok_l01Ok, ok_l05Day, ok_l00In, ok_l05Good, trivial⟩ [] (k := 1) (fn := Try.f108) rfl rfl rfl rfl rfl rfl ?_
    (repeat' ((try (conv => whnf)); first | (with_reducible first | refine And.intro ?_ ?_ | refine WX.of ?_) | exact zc | ((with_reducible refine VC.mk ?_); exact zw) | with_reducible refine atL_p ha ?_ | (with_reducible first | refine splitT ?_ | refine splitF ?_) | ((with_reducible refine splitM.mk (fun hsm => ?_) (fun hsm => ?_)) <;> (try exact zx)) | ((with_reducible refine splitB.mk (fun h => ?_) (fun h => ?_)) <;> (try simp only [zs, ne_eq] at h) <;> (try simp (disch := omega) only [w64] at h) <;> (try exact zx)) | (with_reducible intro hz; (try exact absurd hz (Nat.succ_ne_zero _)))))
    all_goals (first | (exfalso; omega) | (refine ⟨congrArg SV.bool ?_⟩; (try rw [hsp] at *); (try dsimp only at *); rw [h3]; unfold s2B; dsimp only; simp [*]; done) | (refine ⟨congrArg SV.bool ?_⟩; rw [h3]; unfold s2B; dsimp only; simp [*]; intros; omega))
def s_l05Ok : Spec := fun args S => match args, S with
  | [.sl 0 s n x], [.arr (.prod .str (.prod (.int .i64) (.prod (.prod (.prod (.int .i64) (.int .i64)) (.prod (.int .i64) (.int .i64))) (.prod (.prod (.int .i64) (.int .i64)) (.prod (.int .i64) (.int .i64)))))) l 10 wr] => ⟨(s + n ≤ l.length ∧ n ≤ 1048576) ∧ ∀ (j : Nat) (a : StT), l[j]? = some a → a.1.length < 9223372036854775808, .bool (chB (seg l s n)), [.arr (.prod .str (.prod (.int .i64) (.prod (.prod (.prod (.int .i64) (.int .i64)) (.prod (.int .i64) (.int .i64))) (.prod (.prod (.int .i64) (.int .i64)) (.prod (.int .i64) (.int .i64)))))) l 10 wr]⟩
  | _, _ => noSpec
theorem seg_atD {α : Type} {l : List α} {s n i : Nat} {a : α} {d : α} (h : (seg l s n)[i]? = some a) : (l[s + i]?).getD d = a := by rw [(seg_get h).1]; rfl
theorem ok_l05Ok : SpecOk Try.prog 66 s_l05Ok := by
  intro args S h; unfold s_l05Ok at h ⊢; (split at h <;> first | exact False.elim h | skip)
  dsimp only at h ⊢
  rename_i s n x l wr
  obtain ⟨⟨h1, h2⟩, ho⟩ := h
  have hL := seg_len h1
  refine funW tabOk (E := [(107, s_word), (108, s_l05Std)]) ⟨ok_l05Name, ok_l05Standard, trivial⟩ [] (k := 1) (fn := Try.f66) rfl rfl rfl rfl rfl rfl ?_
  (repeat' ((try (conv => whnf)); first | (with_reducible first | refine And.intro ?_ ?_ | refine WX.of ?_) | exact zc | ((with_reducible refine VC.mk ?_); exact zw) | (with_reducible first | refine splitT ?_ | refine splitF ?_) | ((with_reducible refine splitM.mk (fun hsm => ?_) (fun hsm => ?_)) <;> (try exact zx)) | ((with_reducible refine splitB.mk (fun h => ?_) (fun h => ?_)) <;> (try simp only [zs, ne_eq] at h) <;> (try simp (disch := omega) only [w64] at h) <;> (try exact zx)) | (with_reducible intro hz; (try exact absurd hz (Nat.succ_ne_zero _)))))
  · exact ⟨congrArg SV.bool (by unfold chB; rw [hL, show decide (n ≤ 30) = false from decide_eq_false (by omega), Bool.and_false])⟩
  · have hn30 := h
    refine loopW tabOk (E := [(107, s_word), (108, s_l05Std)]) ⟨ok_l05Name, ok_l05Standard, trivial⟩ [] (σ := Nat) (fun i => [(0, .sl 0 s n x), (3, .int .i64 i)]) (fun i => [.arr (.prod .str (.prod (.int .i64) (.prod (.prod (.prod (.int .i64) (.int .i64)) (.prod (.int .i64) (.int .i64))) (.prod (.prod (.int .i64) (.int .i64)) (.prod (.int .i64) (.int .i64)))))) l 10 wr]) (fun i => n - i) (fun i => i ≤ n ∧ ∀ (j : Nat) (a : StT), j < i → (seg l s n)[j]? = some a → stB (seg l s n) j a = true) 0 ⟨Nat.zero_le _, fun j a hj => by omega⟩ ?_ ?_
    · (repeat' ((try (conv => whnf)); first | (with_reducible first | refine And.intro ?_ ?_ | refine WX.of ?_) | exact zc | ((with_reducible refine VC.mk ?_); exact zw) | (with_reducible first | refine splitT ?_ | refine splitF ?_) | ((with_reducible refine splitM.mk (fun hsm => ?_) (fun hsm => ?_)) <;> (try exact zx)) | ((with_reducible refine splitB.mk (fun h => ?_) (fun h => ?_)) <;> (try simp only [zs, ne_eq] at h) <;> (try simp (disch := omega) only [w64] at h) <;> (try exact zx)) | (with_reducible intro hz; (try exact absurd hz (Nat.succ_ne_zero _)))))
    · intro i ⟨hi, hp⟩
      by_cases hlt : i < n
      · obtain ⟨⟨nm, fr, ⟨⟨p, q⟩, p', q'⟩, ⟨dp, dq⟩, md, gd⟩, ha⟩ := get_some (l := seg l s n) (i := i) (by omega)
        have hno := ho _ _ (seg_get ha).1
        dsimp only at hno
        have hsg := seg_take (l := l) (s := s) (m := n) (i := i) (by omega)
        have hse := seg_atD (d := stD) ha
        have hst : ∀ (j : Nat) (a : StT), (seg l s i)[j]? = some a → s2B a = true := fun j a hj => by
          rw [hsg, List.getElem?_take] at hj
          split at hj
          · have := hp j a (by omega) hj
            unfold stB at this; simp only [Bool.and_eq_true] at this; exact this.1.2
          · simp at hj
        have hs3 := s3_take (L := seg l s n) (i := i) (x := (nm, fr, ((p, q), p', q'), (dp, dq), md, gd)) (by omega)
        have hli := (List.getElem?_eq_some_iff.1 (seg_get ha).1).1
        (repeat' ((try (conv => whnf)); first | (with_reducible first | refine And.intro ?_ ?_ | refine WX.of ?_) | exact zc | ((with_reducible refine VC.mk ?_); exact zw) | with_reducible refine atL_i ha ?_ | ((with_reducible refine VC.mk ?_); exact ⟨by omega, by omega, hli, hst⟩) | (with_reducible first | refine splitT ?_ | refine splitF ?_) | ((with_reducible refine splitM.mk (fun hsm => ?_) (fun hsm => ?_)) <;> (try exact zx)) | ((with_reducible refine splitB.mk (fun h => ?_) (fun h => ?_)) <;> (try simp only [zs, ne_eq] at h) <;> (try simp (disch := omega) only [w64] at h) <;> (try exact zx)) | (with_reducible intro hz; (try exact absurd hz (Nat.succ_ne_zero _)))))
        · exact ⟨congrArg SV.bool (by rw [ch_no ha (st_1 (by unfold s1B; dsimp only; rw [h, Bool.false_and]))])⟩
        · rw [Int.toNat_natCast, hse, hsg, hs3, Bool.and_eq_false_iff] at h
          exact ⟨congrArg SV.bool (by rw [ch_no ha (by rcases h with h | h; exact st_2 h; exact st_3 h)])⟩
        · rename_i hw
          rw [Int.toNat_natCast, hse, hsg, hs3] at h
          have h23 := h
          (repeat' ((try (conv => whnf)); first | (with_reducible first | refine And.intro ?_ ?_ | refine WX.of ?_) | exact zc | ((with_reducible refine VC.mk ?_); exact zw) | (with_reducible first | refine splitT ?_ | refine splitF ?_) | ((with_reducible refine splitM.mk (fun hsm => ?_) (fun hsm => ?_)) <;> (try exact zx)) | ((with_reducible refine splitB.mk (fun h => ?_) (fun h => ?_)) <;> (try simp only [zs, ne_eq] at h) <;> (try simp (disch := omega) only [w64] at h) <;> (try exact zx)) | (with_reducible intro hz; (try exact absurd hz (Nat.succ_ne_zero _)))))
          refine loopW tabOk (E := [(107, s_word), (108, s_l05Std)]) ⟨ok_l05Name, ok_l05Standard, trivial⟩ [] (σ := Nat) (fun j => [(0, .sl 0 s n x), (3, .int .i64 i), (4, .int .i64 j)]) (fun j => [.arr (.prod .str (.prod (.int .i64) (.prod (.prod (.prod (.int .i64) (.int .i64)) (.prod (.int .i64) (.int .i64))) (.prod (.prod (.int .i64) (.int .i64)) (.prod (.int .i64) (.int .i64)))))) l 10 wr]) (fun j => i - j) (fun j => j ≤ i ∧ ∀ (k : Nat) (a : StT), k < j → (seg l s n)[k]? = some a → decide (a.1 = nm) = false) 0 ⟨Nat.zero_le _, fun j a hj => by omega⟩ ?_ ?_
          · (repeat' ((try (conv => whnf)); first | (with_reducible first | refine And.intro ?_ ?_ | refine WX.of ?_) | exact zc | ((with_reducible refine VC.mk ?_); exact zw) | (with_reducible first | refine splitT ?_ | refine splitF ?_) | ((with_reducible refine splitM.mk (fun hsm => ?_) (fun hsm => ?_)) <;> (try exact zx)) | ((with_reducible refine splitB.mk (fun h => ?_) (fun h => ?_)) <;> (try simp only [zs, ne_eq] at h) <;> (try simp (disch := omega) only [w64] at h) <;> (try exact zx)) | (with_reducible intro hz; (try exact absurd hz (Nat.succ_ne_zero _)))))
          · intro j ⟨hj, hq⟩
            by_cases hjl : j < i
            · obtain ⟨⟨nm0, fr0, ⟨⟨p0, q0⟩, p0', q0'⟩, ⟨dp0, dq0⟩, md0, gd0⟩, hb⟩ := get_some (l := seg l s n) (i := j) (by omega)
              (repeat' ((try (conv => whnf)); first | (with_reducible first | refine And.intro ?_ ?_ | refine WX.of ?_) | exact zc | ((with_reducible refine VC.mk ?_); exact zw) | with_reducible refine atL_i hb ?_ | with_reducible refine atL_i ha ?_ | (with_reducible first | refine splitT ?_ | refine splitF ?_) | ((with_reducible refine splitM.mk (fun hsm => ?_) (fun hsm => ?_)) <;> (try exact zx)) | ((with_reducible refine splitB.mk (fun h => ?_) (fun h => ?_)) <;> (try simp only [zs, ne_eq] at h) <;> (try simp (disch := omega) only [w64] at h) <;> (try exact zx)) | (with_reducible intro hz; (try exact absurd hz (Nat.succ_ne_zero _)))))
              · exact ⟨congrArg SV.bool (by rw [ch_no ha (st_1 (by unfold s1B; dsimp only; rw [any_take hb hjl (p := fun o : StT => decide (o.1 = nm)) (decide_eq_true h), Bool.not_true, Bool.and_false]))])⟩
              · refine ⟨j + 1, by omega, ⟨hjl, upto_step hb (decide_eq_false h) hq⟩, ?_⟩
                (repeat' ((try (conv => whnf)); first | (with_reducible first | refine And.intro ?_ ?_ | refine WX.of ?_) | exact zc | ((with_reducible refine VC.mk ?_); exact zw) | (with_reducible first | refine splitT ?_ | refine splitF ?_) | ((with_reducible refine splitM.mk (fun hsm => ?_) (fun hsm => ?_)) <;> (try exact zx)) | ((with_reducible refine splitB.mk (fun h => ?_) (fun h => ?_)) <;> (try simp only [zs, ne_eq] at h) <;> (try simp (disch := omega) only [w64] at h) <;> (try exact zx)) | (with_reducible intro hz; (try exact absurd hz (Nat.succ_ne_zero _)))))
            · have han : ((seg l s n).take i).any (fun o : StT => decide (o.1 = nm)) = false := any_no fun k a hk => by
                rw [List.getElem?_take] at hk
                split at hk
                · exact hq k a (by omega) hk
                · simp at hk
              have hth : stB (seg l s n) i (nm, fr, ((p, q), p', q'), (dp, dq), md, gd) = true := by
                unfold stB s1B; dsimp only; rw [hw, han, Bool.not_false, Bool.and_self, Bool.true_and]; exact h23
              (repeat' ((try (conv => whnf)); first | (with_reducible first | refine And.intro ?_ ?_ | refine WX.of ?_) | exact zc | ((with_reducible refine VC.mk ?_); exact zw) | (with_reducible first | refine splitT ?_ | refine splitF ?_) | ((with_reducible refine splitM.mk (fun hsm => ?_) (fun hsm => ?_)) <;> (try exact zx)) | ((with_reducible refine splitB.mk (fun h => ?_) (fun h => ?_)) <;> (try simp only [zs, ne_eq] at h) <;> (try simp (disch := omega) only [w64] at h) <;> (try exact zx)) | (with_reducible intro hz; (try exact absurd hz (Nat.succ_ne_zero _)))))
              refine ⟨i + 1, by omega, ⟨hlt, upto_step2 ha hth hp⟩, ?_⟩
              (repeat' ((try (conv => whnf)); first | (with_reducible first | refine And.intro ?_ ?_ | refine WX.of ?_) | exact zc | ((with_reducible refine VC.mk ?_); exact zw) | (with_reducible first | refine splitT ?_ | refine splitF ?_) | ((with_reducible refine splitM.mk (fun hsm => ?_) (fun hsm => ?_)) <;> (try exact zx)) | ((with_reducible refine splitB.mk (fun h => ?_) (fun h => ?_)) <;> (try simp only [zs, ne_eq] at h) <;> (try simp (disch := omega) only [w64] at h) <;> (try exact zx)) | (with_reducible intro hz; (try exact absurd hz (Nat.succ_ne_zero _)))))
      · obtain rfl : i = n := by omega
        have hbn := ch_yes (L := seg l s i) fun k a ha => hp k a (by have := (List.getElem?_eq_some_iff.1 ha).1; omega) ha
        (repeat' ((try (conv => whnf)); first | (with_reducible first | refine And.intro ?_ ?_ | refine WX.of ?_) | exact zc | ((with_reducible refine VC.mk ?_); exact zw) | (with_reducible first | refine splitT ?_ | refine splitF ?_) | ((with_reducible refine splitM.mk (fun hsm => ?_) (fun hsm => ?_)) <;> (try exact zx)) | ((with_reducible refine splitB.mk (fun h => ?_) (fun h => ?_)) <;> (try simp only [zs, ne_eq] at h) <;> (try simp (disch := omega) only [w64] at h) <;> (try exact zx)) | (with_reducible intro hz; (try exact absurd hz (Nat.succ_ne_zero _)))))
        exact ⟨congrArg SV.bool (by rw [hbn, hL, show decide (i ≤ 30) = true from decide_eq_true (by omega)])⟩
set_option maxHeartbeats 1600000 in
theorem ok_ValidChainI : SpecOk Try.prog 87 s_l05Ok := by
  intro args S h; unfold s_l05Ok at h ⊢; (split at h <;> first | exact False.elim h | skip)
  dsimp only at h ⊢
  rename_i s n x l wr
  obtain ⟨⟨h1, h2⟩, ho⟩ := h
  have hL := seg_len h1
  refine funW tabOk (E := [(117, s_word), (118, (s_anyCh 119)), (71, s_within), (55, s_vSpan), (56, s_fOk), (38, s_good)]) ⟨ok_isWord, ok_anyCh, ok_within, ok_ValidSpan, ok_ValidFrac, ok_good, trivial⟩ [] (k := 1) (fn := Try.f87) rfl rfl rfl rfl rfl rfl ?_
  (repeat' ((try (conv => whnf)); first | (with_reducible first | refine And.intro ?_ ?_ | refine WX.of ?_) | exact zc | ((with_reducible refine VC.mk ?_); exact zw) | (with_reducible first | refine splitT ?_ | refine splitF ?_) | ((with_reducible refine splitM.mk (fun hsm => ?_) (fun hsm => ?_)) <;> (try exact zx)) | ((with_reducible refine splitB.mk (fun h => ?_) (fun h => ?_)) <;> (try simp only [zs, ne_eq] at h) <;> (try simp (disch := omega) only [w64] at h) <;> (try exact zx)) | (with_reducible intro hz; (try exact absurd hz (Nat.succ_ne_zero _)))))
  refine loopW tabOk (E := [(117, s_word), (118, (s_anyCh 119)), (71, s_within), (55, s_vSpan), (56, s_fOk), (38, s_good)]) ⟨ok_isWord, ok_anyCh, ok_within, ok_ValidSpan, ok_ValidFrac, ok_good, trivial⟩ [] (σ := Nat) (fun i => [(0, .sl 0 s n x), (5, .sl 0 s n x), (6, .int .i64 n), (7, .int .i64 i)]) (fun i => [.arr (.prod .str (.prod (.int .i64) (.prod (.prod (.prod (.int .i64) (.int .i64)) (.prod (.int .i64) (.int .i64))) (.prod (.prod (.int .i64) (.int .i64)) (.prod (.int .i64) (.int .i64)))))) l 10 wr]) (fun i => n - i) (fun i => i ≤ n ∧ ∀ (j : Nat) (a : StT), j < i → (seg l s n)[j]? = some a → stB (seg l s n) j a = true) 0 ⟨Nat.zero_le _, fun j a hj => by omega⟩ ?_ ?_
  · (repeat' ((try (conv => whnf)); first | (with_reducible first | refine And.intro ?_ ?_ | refine WX.of ?_) | exact zc | ((with_reducible refine VC.mk ?_); exact zw) | (with_reducible first | refine splitT ?_ | refine splitF ?_) | ((with_reducible refine splitM.mk (fun hsm => ?_) (fun hsm => ?_)) <;> (try exact zx)) | ((with_reducible refine splitB.mk (fun h => ?_) (fun h => ?_)) <;> (try simp only [zs, ne_eq] at h) <;> (try simp (disch := omega) only [w64] at h) <;> (try exact zx)) | (with_reducible intro hz; (try exact absurd hz (Nat.succ_ne_zero _)))))
  · intro i ⟨hi, hp⟩
    by_cases hlt : i < n
    · obtain ⟨⟨nm, fr, ⟨⟨p, q⟩, p', q'⟩, ⟨dp, dq⟩, md, gd⟩, ha⟩ := get_some (l := seg l s n) (i := i) (by omega)
      have hno := ho _ _ (seg_get ha).1
      dsimp only at hno
      have hsg := seg_take (l := l) (s := s) (m := n) (i := i) (by omega)
      rcases in_em fr i with hin | hin
      · obtain ⟨⟨nm0, fr0, ⟨⟨p0, q0⟩, p0', q0'⟩, ⟨dp0, dq0⟩, md0, gd0⟩, hy⟩ := get_some (l := seg l s n) (i := fr.toNat) (by omega)
        have hyp := hp _ _ (by omega) hy
        have hyb := s2_of (show s2B _ = true from by unfold stB at hyp; simp only [Bool.and_eq_true] at hyp; exact hyp.1.2)
        have hay : stAt (seg l s n) fr = (nm0, fr0, ((p0, q0), p0', q0'), (dp0, dq0), md0, gd0) := stAt_z hy
        (repeat' ((try (conv => whnf)); first | (with_reducible first | refine And.intro ?_ ?_ | refine WX.of ?_) | exact zc | ((with_reducible refine VC.mk ?_); exact zw) | with_reducible refine atL_i ha ?_ | with_reducible refine atL_p (seg_get hy).1 ?_ | ((with_reducible refine VC.mk ?_); exact hno) | ((with_reducible refine VC.mk ?_); exact hyb) | (with_reducible first | refine splitT ?_ | refine splitF ?_) | ((with_reducible refine splitM.mk (fun hsm => ?_) (fun hsm => ?_)) <;> (try exact zx)) | ((with_reducible refine splitB.mk (fun h => ?_) (fun h => ?_)) <;> (try simp only [zs, ne_eq] at h) <;> (try simp (disch := omega) only [w64] at h) <;> (try exact zx)) | (with_reducible intro hz; (try exact absurd hz (Nat.succ_ne_zero _)))))
        all_goals first
          | exact ⟨⟨rfl, ⟨by omega, by omega⟩, trivial⟩⟩
          | (refine ⟨congrArg SV.bool ?_⟩; rw [ch_no ha]; unfold stB s1B s2B s3B spB dyB; dsimp only; first | (rw [Int.toNat_natCast, hsg] at h; simp [h]; done) | (simp [h]; done) | (rw [hay]; simp [h]; done) | (rw [hay]; simp [h]; intros; omega) | (rw [decide_eq_false h]; simp; done) | (simp [Int.not_le.2 h]; done) | (rw [decide_eq_false (Int.not_le.2 h)]; simp; done))
          | skip
        rename_i _ hw han hfr hsp hdf hdp hmd hgd h0
        rw [Int.toNat_natCast, hsg] at han
        have hth : stB (seg l s n) i (nm, fr, ((p, q), p', q'), (dp, dq), md, gd) = true := by
          unfold stB s1B s2B s3B spB dyB; dsimp only; rw [hay, hw, han, hsp, hdf, h, decide_eq_true hfr, decide_eq_true hdp, decide_eq_true hmd, decide_eq_true hgd]; simp
        refine ⟨i + 1, by omega, ⟨hlt, upto_step2 ha hth hp⟩, ?_⟩
        (repeat' ((try (conv => whnf)); first | (with_reducible first | refine And.intro ?_ ?_ | refine WX.of ?_) | exact zc | ((with_reducible refine VC.mk ?_); exact zw) | (with_reducible first | refine splitT ?_ | refine splitF ?_) | ((with_reducible refine splitM.mk (fun hsm => ?_) (fun hsm => ?_)) <;> (try exact zx)) | ((with_reducible refine splitB.mk (fun h => ?_) (fun h => ?_)) <;> (try simp only [zs, ne_eq] at h) <;> (try simp (disch := omega) only [w64] at h) <;> (try exact zx)) | (with_reducible intro hz; (try exact absurd hz (Nat.succ_ne_zero _)))))
      · (repeat' ((try (conv => whnf)); first | (with_reducible first | refine And.intro ?_ ?_ | refine WX.of ?_) | exact zc | ((with_reducible refine VC.mk ?_); exact zw) | with_reducible refine atL_i ha ?_ | ((with_reducible refine VC.mk ?_); exact hno) | (with_reducible first | refine splitT ?_ | refine splitF ?_) | ((with_reducible refine splitM.mk (fun hsm => ?_) (fun hsm => ?_)) <;> (try exact zx)) | ((with_reducible refine splitB.mk (fun h => ?_) (fun h => ?_)) <;> (try simp only [zs, ne_eq] at h) <;> (try simp (disch := omega) only [w64] at h) <;> (try exact zx)) | (with_reducible intro hz; (try exact absurd hz (Nat.succ_ne_zero _)))))
        all_goals first
          | exact ⟨⟨rfl, ⟨by omega, by omega⟩, trivial⟩⟩
          | (refine ⟨congrArg SV.bool ?_⟩; rw [ch_no ha]; unfold stB s1B s2B s3B spB dyB; dsimp only; first | (rw [Int.toNat_natCast, hsg] at h; simp [h]; done) | (simp [h]; done) | (rw [decide_eq_false h]; simp; done) | (simp [Int.not_le.2 h]; done) | (rw [decide_eq_false (Int.not_le.2 h)]; simp; done))
          | skip
        rename_i _ hw han hfr hsp hdf hdp hmd hgd
        rw [Int.toNat_natCast, hsg] at han
        have hth : stB (seg l s n) i (nm, fr, ((p, q), p', q'), (dp, dq), md, gd) = true := by
          unfold stB s1B s2B s3B spB dyB; dsimp only; rw [hw, han, hsp, hdf, decide_eq_true hfr, decide_eq_true hdp, decide_eq_true hmd, decide_eq_true hgd, decide_eq_true h]; simp
        refine ⟨i + 1, by omega, ⟨hlt, upto_step2 ha hth hp⟩, ?_⟩
        (repeat' ((try (conv => whnf)); first | (with_reducible first | refine And.intro ?_ ?_ | refine WX.of ?_) | exact zc | ((with_reducible refine VC.mk ?_); exact zw) | (with_reducible first | refine splitT ?_ | refine splitF ?_) | ((with_reducible refine splitM.mk (fun hsm => ?_) (fun hsm => ?_)) <;> (try exact zx)) | ((with_reducible refine splitB.mk (fun h => ?_) (fun h => ?_)) <;> (try simp only [zs, ne_eq] at h) <;> (try simp (disch := omega) only [w64] at h) <;> (try exact zx)) | (with_reducible intro hz; (try exact absurd hz (Nat.succ_ne_zero _)))))
    · obtain rfl : i = n := by omega
      have hbn := ch_yes (L := seg l s i) fun k a ha => hp k a (by have := (List.getElem?_eq_some_iff.1 ha).1; omega) ha
      (repeat' ((try (conv => whnf)); first | (with_reducible first | refine And.intro ?_ ?_ | refine WX.of ?_) | exact zc | ((with_reducible refine VC.mk ?_); exact zw) | (with_reducible first | refine splitT ?_ | refine splitF ?_) | ((with_reducible refine splitM.mk (fun hsm => ?_) (fun hsm => ?_)) <;> (try exact zx)) | ((with_reducible refine splitB.mk (fun h => ?_) (fun h => ?_)) <;> (try simp only [zs, ne_eq] at h) <;> (try simp (disch := omega) only [w64] at h) <;> (try exact zx)) | (with_reducible intro hz; (try exact absurd hz (Nat.succ_ne_zero _)))))
      exact ⟨congrArg SV.bool (by rw [hbn, hL, decide_eq_decide]; omega)⟩
end Go.Proofs.Ytnmpgofhdjcpaaa.Eng
set_option linter.unusedVariables false
set_option linter.unusedSimpArgs false
namespace Go.Proofs.Ytnmpgofhdjcpaaa.Eng
open Go Go.RowKit
set_option maxRecDepth 100000
theorem fOk_q {p q : Int} (h : fOk p q = true) : 0 < q := by have := smF_ok h; unfold smF at this; omega
end Go.Proofs.Ytnmpgofhdjcpaaa.Eng
set_option linter.unusedVariables false
set_option linter.unusedSimpArgs false
namespace Go.Proofs.Ytnmpgofhdjcpaaa.Eng
open Go Go.RowKit
set_option maxRecDepth 100000
end Go.Proofs.Ytnmpgofhdjcpaaa.Eng
set_option linter.unusedVariables false
set_option linter.unusedSimpArgs false
namespace Go.Proofs.Ytnmpgofhdjcpaaa.Eng
open Go Go.RowKit
set_option maxRecDepth 100000
def s_path : Spec := fun args S => match args, S with
  | [.sl 0 s n x, .int .i64 i], [.arr (.prod .str (.prod (.int .i64) (.prod (.prod (.prod (.int .i64) (.int .i64)) (.prod (.int .i64) (.int .i64))) (.prod (.prod (.int .i64) (.int .i64)) (.prod (.int .i64) (.int .i64)))))) l 10 wr] => ⟨s + n ≤ l.length ∧ chB (seg l s n) = true ∧ i < n, .sl 1 0 (pathL (seg l s n) i).length 0, [.arr (.prod .str (.prod (.int .i64) (.prod (.prod (.prod (.int .i64) (.int .i64)) (.prod (.int .i64) (.int .i64))) (.prod (.prod (.int .i64) (.int .i64)) (.prod (.int .i64) (.int .i64)))))) l 10 wr, .arr (.int .i64) (pathL (seg l s n) i) 1 true]⟩
  | _, _ => noSpec
theorem ltz {a b c : Int} (h : a ≤ b - 1) (h2 : b < c) : a < c := by omega
theorem ltz2 {a i : Int} {m : Nat} (h : a ≤ i - 1) (h2 : i < ((m + 1 : Nat) : Int)) : a < (m : Int) := by omega
theorem ok_pathI : SpecOk Try.prog 39 s_path := by
  intro args S h; unfold s_path at h ⊢; (split at h <;> first | exact False.elim h | skip)
  dsimp only at h ⊢
  rename_i s n x i l wr
  obtain ⟨h1, hc, hi⟩ := h
  have hL := seg_len h1
  have hl30 := ch_len hc
  refine funW tabOk (E := []) trivial [] (k := 1) (fn := Try.f39) rfl rfl rfl rfl rfl rfl ?_
  (repeat' ((try (conv => whnf)); first | (with_reducible first | refine And.intro ?_ ?_ | refine WX.of ?_) | exact zc | ((with_reducible refine VC.mk ?_); exact zw) | (with_reducible first | refine splitT ?_ | refine splitF ?_) | ((with_reducible refine splitM.mk (fun hsm => ?_) (fun hsm => ?_)) <;> (try exact zx)) | ((with_reducible refine splitB.mk (fun h => ?_) (fun h => ?_)) <;> (try simp only [zs, ne_eq] at h) <;> (try simp (disch := omega) only [w64] at h) <;> (try exact zx)) | (with_reducible intro hz; (try exact absurd hz (Nat.succ_ne_zero _)))))
  by_cases hneg : i < 0
  · have e : pathL (seg l s n) i = [] := path_neg hneg
    rw [e]
    refine loop1 tabOk (E := []) trivial [] ?_
    (repeat' ((try (conv => whnf)); first | (with_reducible first | refine And.intro ?_ ?_ | refine WX.of ?_) | exact zc | ((with_reducible refine VC.mk ?_); exact zw) | (with_reducible first | refine splitT ?_ | refine splitF ?_) | ((with_reducible refine splitM.mk (fun hsm => ?_) (fun hsm => ?_)) <;> (try exact zx)) | ((with_reducible refine splitB.mk (fun h => ?_) (fun h => ?_)) <;> (try simp only [zs, ne_eq] at h) <;> (try simp (disch := omega) only [w64] at h) <;> (try exact zx)) | (with_reducible intro hz; (try exact absurd hz (Nat.succ_ne_zero _)))))
  refine loopW tabOk (E := []) trivial [] (σ := Int × List Int) (fun z => [(0, .sl 0 s n x), (1, .int .i64 z.1), (5, .sl 1 0 z.2.length 0)]) (fun z => [.arr (.prod .str (.prod (.int .i64) (.prod (.prod (.prod (.int .i64) (.int .i64)) (.prod (.int .i64) (.int .i64))) (.prod (.prod (.int .i64) (.int .i64)) (.prod (.int .i64) (.int .i64)))))) l 10 wr, .arr (.int .i64) z.2 1 true]) (fun z => (z.1 + 1).toNat) (fun z => -1 ≤ z.1 ∧ z.1 < n ∧ (z.2.length : Int) ≤ 40 - z.1 ∧ pathL (seg l s n) i = pathL (seg l s n) z.1 ++ z.2) (i, []) ⟨by dsimp only; omega, by dsimp only; omega, by simp; omega, by simp⟩ ?_ ?_
  · (repeat' ((try (conv => whnf)); first | (with_reducible first | refine And.intro ?_ ?_ | refine WX.of ?_) | exact zc | ((with_reducible refine VC.mk ?_); exact zw) | (with_reducible first | refine splitT ?_ | refine splitF ?_) | ((with_reducible refine splitM.mk (fun hsm => ?_) (fun hsm => ?_)) <;> (try exact zx)) | ((with_reducible refine splitB.mk (fun h => ?_) (fun h => ?_)) <;> (try simp only [zs, ne_eq] at h) <;> (try simp (disch := omega) only [w64] at h) <;> (try exact zx)) | (with_reducible intro hz; (try exact absurd hz (Nat.succ_ne_zero _)))))
  · intro ⟨j, B⟩ ⟨hj1, hj2, hB, he⟩
    dsimp only at hj1 hj2 hB he ⊢
    by_cases hjn : j < 0
    · have e : pathL (seg l s n) j = [] := path_neg hjn
      rw [e, List.nil_append] at he
      rw [he]
      (repeat' ((try (conv => whnf)); first | (with_reducible first | refine And.intro ?_ ?_ | refine WX.of ?_) | exact zc | ((with_reducible refine VC.mk ?_); exact zw) | (with_reducible first | refine splitT ?_ | refine splitF ?_) | ((with_reducible refine splitM.mk (fun hsm => ?_) (fun hsm => ?_)) <;> (try exact zx)) | ((with_reducible refine splitB.mk (fun h => ?_) (fun h => ?_)) <;> (try simp only [zs, ne_eq] at h) <;> (try simp (disch := omega) only [w64] at h) <;> (try exact zx)) | (with_reducible intro hz; (try exact absurd hz (Nat.succ_ne_zero _)))))
    · obtain ⟨⟨nm, fr, ⟨⟨p, q⟩, p', q'⟩, ⟨dp, dq⟩, md, gd⟩, ha⟩ := get_some (l := seg l s n) (i := j.toNat) (by omega)
      have hst := path_step hc (i := j) (by omega)
      have hfl := fr_lt hc (i := j) (by omega)
      rw [stAt_z ha] at hst hfl
      dsimp only at hst hfl
      have hA := ltz hfl.2 hj2
      (repeat' ((try (conv => whnf)); first | (with_reducible first | refine And.intro ?_ ?_ | refine WX.of ?_) | exact zc | ((with_reducible refine VC.mk ?_); exact zw) | with_reducible refine atL_p (seg_get ha).1 ?_ | (with_reducible first | refine splitT ?_ | refine splitF ?_) | ((with_reducible refine splitM.mk (fun hsm => ?_) (fun hsm => ?_)) <;> (try exact zx)) | ((with_reducible refine splitB.mk (fun h => ?_) (fun h => ?_)) <;> (try simp only [zs, ne_eq] at h) <;> (try simp (disch := omega) only [w64] at h) <;> (try exact zx)) | (with_reducible intro hz; (try exact absurd hz (Nat.succ_ne_zero _)))))
      · obtain rfl : B = [] := List.eq_nil_of_length_eq_zero hz
        refine ⟨(fr, [j]), by dsimp only; omega, ⟨hfl.1, hA, by simp; omega, by rw [he, hst]; simp⟩, ?_⟩
        (repeat' ((try (conv => whnf)); first | (with_reducible first | refine And.intro ?_ ?_ | refine WX.of ?_) | exact zc | ((with_reducible refine VC.mk ?_); exact zw) | (with_reducible first | refine splitT ?_ | refine splitF ?_) | ((with_reducible refine splitM.mk (fun hsm => ?_) (fun hsm => ?_)) <;> (try exact zx)) | ((with_reducible refine splitB.mk (fun h => ?_) (fun h => ?_)) <;> (try simp only [zs, ne_eq] at h) <;> (try simp (disch := omega) only [w64] at h) <;> (try exact zx)) | (with_reducible intro hz; (try exact absurd hz (Nat.succ_ne_zero _)))))
      · refine ⟨(fr, j :: B), by dsimp only; omega, ⟨hfl.1, hA, by simp; omega, by rw [he, hst]; simp⟩, ?_⟩
        (repeat' ((try (conv => whnf)); first | (with_reducible first | refine And.intro ?_ ?_ | refine WX.of ?_) | exact zc | ((with_reducible refine VC.mk ?_); exact zw) | (with_reducible first | refine splitT ?_ | refine splitF ?_) | ((with_reducible refine splitM.mk (fun hsm => ?_) (fun hsm => ?_)) <;> (try exact zx)) | ((with_reducible refine splitB.mk (fun h => ?_) (fun h => ?_)) <;> (try simp only [zs, ne_eq] at h) <;> (try simp (disch := omega) only [w64] at h) <;> (try exact zx)) | (with_reducible intro hz; (try exact absurd hz (Nat.succ_ne_zero _)))))
        · exact ⟨by simp [Nat.add_comm]⟩
        · exact ⟨by simp [seg_all]; rfl⟩
def s_l05Path (m : Nat) : Spec := fun args S => match args, S with
  | [.sl 0 s n x, .int .i64 i], [.arr (.prod .str (.prod (.int .i64) (.prod (.prod (.prod (.int .i64) (.int .i64)) (.prod (.int .i64) (.int .i64))) (.prod (.prod (.int .i64) (.int .i64)) (.prod (.int .i64) (.int .i64)))))) l 10 wr] => ⟨(s + n ≤ l.length ∧ chB (seg l s n) = true ∧ i < n) ∧ i < m, .sl 1 0 (pathL (seg l s n) i).length 0, [.arr (.prod .str (.prod (.int .i64) (.prod (.prod (.prod (.int .i64) (.int .i64)) (.prod (.int .i64) (.int .i64))) (.prod (.prod (.int .i64) (.int .i64)) (.prod (.int .i64) (.int .i64)))))) l 10 wr, .arr (.int .i64) (pathL (seg l s n) i) 1 true]⟩
  | _, _ => noSpec
theorem ok_l05Path_0 : SpecOk Try.prog 95 (s_l05Path 0) := by
  intro args S h; unfold s_l05Path at h ⊢; (split at h <;> first | exact False.elim h | skip)
  dsimp only at h ⊢
  rename_i s n x i l wr
  obtain ⟨⟨h1, hc, hi⟩, hm⟩ := h
  have hn : i < 0 := hm
  have e : pathL (seg l s n) i = [] := path_neg hn
  rw [e]
  refine funW tabOk (E := []) trivial [] (k := 1) (fn := Try.f95) rfl rfl rfl rfl rfl rfl ?_
  (repeat' ((try (conv => whnf)); first | (with_reducible first | refine And.intro ?_ ?_ | refine WX.of ?_) | exact zc | ((with_reducible refine VC.mk ?_); exact zw) | (with_reducible first | refine splitT ?_ | refine splitF ?_) | ((with_reducible refine splitM.mk (fun hsm => ?_) (fun hsm => ?_)) <;> (try exact zx)) | ((with_reducible refine splitB.mk (fun h => ?_) (fun h => ?_)) <;> (try simp only [zs, ne_eq] at h) <;> (try simp (disch := omega) only [w64] at h) <;> (try exact zx)) | (with_reducible intro hz; (try exact absurd hz (Nat.succ_ne_zero _)))))
theorem ok_l05Path_1 {m : Nat} (ih : SpecOk Try.prog 95 (s_l05Path m)) : SpecOk Try.prog 95 (s_l05Path (m + 1)) := by
  intro args S h; unfold s_l05Path at h ⊢; (split at h <;> first | exact False.elim h | skip)
  dsimp only at h ⊢
  rename_i s n x i l wr
  obtain ⟨⟨h1, hc, hi⟩, hm⟩ := h
  have hL := seg_len h1
  have hl30 := ch_len hc
  by_cases hneg : i < 0
  · have e : pathL (seg l s n) i = [] := path_neg hneg
    rw [e]
    refine funW tabOk (E := [(95, (s_l05Path m))]) ⟨ih, trivial⟩ [] (k := 1) (fn := Try.f95) rfl rfl rfl rfl rfl rfl ?_
    (repeat' ((try (conv => whnf)); first | (with_reducible first | refine And.intro ?_ ?_ | refine WX.of ?_) | exact zc | ((with_reducible refine VC.mk ?_); exact zw) | (with_reducible first | refine splitT ?_ | refine splitF ?_) | ((with_reducible refine splitM.mk (fun hsm => ?_) (fun hsm => ?_)) <;> (try exact zx)) | ((with_reducible refine splitB.mk (fun h => ?_) (fun h => ?_)) <;> (try simp only [zs, ne_eq] at h) <;> (try simp (disch := omega) only [w64] at h) <;> (try exact zx)) | (with_reducible intro hz; (try exact absurd hz (Nat.succ_ne_zero _)))))
  · obtain ⟨⟨nm, fr, ⟨⟨p, q⟩, p', q'⟩, ⟨dp, dq⟩, md, gd⟩, ha⟩ := get_some (l := seg l s n) (i := i.toNat) (by omega)
    have hst := path_step hc (i := i) (by omega)
    have hfl := fr_lt hc (i := i) (by omega)
    rw [stAt_z ha] at hst hfl
    dsimp only at hst hfl
    have hp30 := path_30 hc (i := fr) (by omega)
    rw [hst]
    refine funW tabOk (E := [(95, (s_l05Path m))]) ⟨ih, trivial⟩ [] (k := 1) (fn := Try.f95) rfl rfl rfl rfl rfl rfl ?_
    have hA := ltz hfl.2 hi
    have hB := ltz2 hfl.2 hm
    (repeat' ((try (conv => whnf)); first | (with_reducible first | refine And.intro ?_ ?_ | refine WX.of ?_) | exact zc | ((with_reducible refine VC.mk ?_); exact zw) | with_reducible refine atL_p (seg_get ha).1 ?_ | ((with_reducible refine VC.mk ?_); exact ⟨⟨h1, hc, hA⟩, hB⟩) | ((with_reducible refine VC.mk ?_); exact ⟨Nat.le_trans (Nat.mul_le_mul_left _ (show _ ≤ 1000 by decide)) (by dsimp only; omega), by dsimp only; omega⟩) | (with_reducible first | refine splitT ?_ | refine splitF ?_) | ((with_reducible refine splitM.mk (fun hsm => ?_) (fun hsm => ?_)) <;> (try exact zx)) | ((with_reducible refine splitB.mk (fun h => ?_) (fun h => ?_)) <;> (try simp only [zs, ne_eq] at h) <;> (try simp (disch := omega) only [w64] at h) <;> (try exact zx)) | (with_reducible intro hz; (try exact absurd hz (Nat.succ_ne_zero _)))))
    · exact ⟨by simp⟩
    · exact ⟨by simp [seg_all]; exact ⟨rfl, rfl⟩⟩
theorem ok_l05PathM : ∀ (m : Nat), SpecOk Try.prog 95 (s_l05Path m)
  | 0 => ok_l05Path_0
  | m + 1 => ok_l05Path_1 (ok_l05PathM m)
theorem ok_l05Path : SpecOk Try.prog 95 s_path := by
  intro args S h; unfold s_path at h ⊢; (split at h <;> first | exact False.elim h | skip)
  dsimp only at h ⊢
  rename_i s n x i l wr
  exact ok_l05PathM (i.toNat + 1) [.sl 0 s n x, .int .i64 i] [.arr (.prod .str (.prod (.int .i64) (.prod (.prod (.prod (.int .i64) (.int .i64)) (.prod (.int .i64) (.int .i64))) (.prod (.prod (.int .i64) (.int .i64)) (.prod (.int .i64) (.int .i64)))))) l 10 wr] ⟨h, by omega⟩
end Go.Proofs.Ytnmpgofhdjcpaaa.Eng
set_option linter.unusedVariables false
set_option linter.unusedSimpArgs false
namespace Go.Proofs.Ytnmpgofhdjcpaaa.Eng
open Go Go.RowKit
set_option maxRecDepth 100000
def s_plOI : Spec := fun args S => match args, S with
  | [.ptr b 0 0, .agg [.int .i64 p, .int .i64 q, .int .i64 p', .int .i64 q'], .agg [.int .i64 r, .int .i64 s, .int .i64 r', .int .i64 s']], [.arr .bool [bad] 0 true] => ⟨b = 0 ∧ smS ((p, q), p', q') ∧ smS ((r, s), r', s'), .agg [.int .i64 (plV ((p, q), p', q') ((r, s), r', s')).1.1, .int .i64 (plV ((p, q), p', q') ((r, s), r', s')).1.2, .int .i64 (plV ((p, q), p', q') ((r, s), r', s')).2.1, .int .i64 (plV ((p, q), p', q') ((r, s), r', s')).2.2], [.arr .bool [bad || (!(adO (p, q) (r, s)).isSome || !(adO (p', q') (r', s')).isSome)] 0 true]⟩
  | _, _ => noSpec
theorem ok_plOI : SpecOk Try.prog 92 s_plOI := by
  intro args S h; unfold s_plOI at h ⊢; (split at h <;> first | exact False.elim h | skip)
  dsimp only at h ⊢
  rename_i b p q p' q' r s r' s' bad
  obtain ⟨rfl, h1, h2⟩ := h
  refine funW tabOk (E := [(93, s_addO)]) ⟨ok_addO, trivial⟩ [(1, [(8, 0), (10, 0)])] (k := 1) (fn := Try.f92) rfl rfl rfl rfl rfl rfl ?_
  (repeat' ((try (conv => whnf)); first | (with_reducible first | refine And.intro ?_ ?_ | refine WX.of ?_) | exact zc | ((with_reducible refine VC.mk ?_); exact zw) | ((with_reducible refine VC.mk ?_); exact ⟨rfl, h1.1, h2.1⟩) | ((with_reducible refine VC.mk ?_); exact ⟨rfl, h1.2, h2.2⟩) | (with_reducible first | refine splitT ?_ | refine splitF ?_) | ((with_reducible refine splitM.mk (fun hsm => ?_) (fun hsm => ?_)) <;> (try exact zx)) | ((with_reducible refine splitB.mk (fun h => ?_) (fun h => ?_)) <;> (try simp only [zs, ne_eq] at h) <;> (try simp (disch := omega) only [w64] at h) <;> (try exact zx)) | (with_reducible intro hz; (try exact absurd hz (Nat.succ_ne_zero _)))))
  all_goals exact ⟨by simp [plV, spV, Bool.or_assoc]⟩
def s_miOI : Spec := fun args S => match args, S with
  | [.ptr b 0 0, .agg [.int .i64 p, .int .i64 q, .int .i64 p', .int .i64 q'], .agg [.int .i64 r, .int .i64 s, .int .i64 r', .int .i64 s']], [.arr .bool [bad] 0 true] => ⟨b = 0 ∧ smS ((p, q), p', q') ∧ smS ((r, s), r', s'), .agg [.int .i64 (miV ((p, q), p', q') ((r, s), r', s')).1.1, .int .i64 (miV ((p, q), p', q') ((r, s), r', s')).1.2, .int .i64 (miV ((p, q), p', q') ((r, s), r', s')).2.1, .int .i64 (miV ((p, q), p', q') ((r, s), r', s')).2.2], [.arr .bool [bad || (!(sbO (p, q) (r', s')).isSome || !(sbO (p', q') (r, s)).isSome)] 0 true]⟩
  | _, _ => noSpec
theorem ok_miOI : SpecOk Try.prog 42 s_miOI := by
  intro args S h; unfold s_miOI at h ⊢; (split at h <;> first | exact False.elim h | skip)
  dsimp only at h ⊢
  rename_i b p q p' q' r s r' s' bad
  obtain ⟨rfl, h1, h2⟩ := h
  refine funW tabOk (E := [(54, s_subO)]) ⟨ok_subO, trivial⟩ [(1, [(8, 0), (10, 0)])] (k := 1) (fn := Try.f42) rfl rfl rfl rfl rfl rfl ?_
  (repeat' ((try (conv => whnf)); first | (with_reducible first | refine And.intro ?_ ?_ | refine WX.of ?_) | exact zc | ((with_reducible refine VC.mk ?_); exact zw) | ((with_reducible refine VC.mk ?_); exact ⟨rfl, h1.1, h2.2⟩) | ((with_reducible refine VC.mk ?_); exact ⟨rfl, h1.2, h2.1⟩) | (with_reducible first | refine splitT ?_ | refine splitF ?_) | ((with_reducible refine splitM.mk (fun hsm => ?_) (fun hsm => ?_)) <;> (try exact zx)) | ((with_reducible refine splitB.mk (fun h => ?_) (fun h => ?_)) <;> (try simp only [zs, ne_eq] at h) <;> (try simp (disch := omega) only [w64] at h) <;> (try exact zx)) | (with_reducible intro hz; (try exact absurd hz (Nat.succ_ne_zero _)))))
  all_goals exact ⟨by simp [miV, spV, Bool.or_assoc]⟩
def s_wdI : Spec := fun args S => match args, S with
  | [.ptr b 0 0, .agg [.int .i64 p, .int .i64 q, .int .i64 p', .int .i64 q'], .agg [.int .i64 r, .int .i64 s]], [.arr .bool [bad] 0 true] => ⟨b = 0 ∧ smS ((p, q), p', q') ∧ smF r s, .agg [.int .i64 (wdV ((p, q), p', q') (r, s)).1.1, .int .i64 (wdV ((p, q), p', q') (r, s)).1.2, .int .i64 (wdV ((p, q), p', q') (r, s)).2.1, .int .i64 (wdV ((p, q), p', q') (r, s)).2.2], [.arr .bool [bad || (!(sbO (p, q) (r, s)).isSome || !(adO (p', q') (r, s)).isSome)] 0 true]⟩
  | _, _ => noSpec
theorem ok_wdI : SpecOk Try.prog 46 s_wdI := by
  intro args S h; unfold s_wdI at h ⊢; (split at h <;> first | exact False.elim h | skip)
  dsimp only at h ⊢
  rename_i b p q p' q' r s bad
  obtain ⟨rfl, h1, h2⟩ := h
  refine funW tabOk (E := [(54, s_subO), (93, s_addO)]) ⟨ok_subO, ok_addO, trivial⟩ [(1, [(7, 0), (8, 0)])] (k := 1) (fn := Try.f46) rfl rfl rfl rfl rfl rfl ?_
  (repeat' ((try (conv => whnf)); first | (with_reducible first | refine And.intro ?_ ?_ | refine WX.of ?_) | exact zc | ((with_reducible refine VC.mk ?_); exact zw) | ((with_reducible refine VC.mk ?_); exact ⟨rfl, h1.1, h2⟩) | ((with_reducible refine VC.mk ?_); exact ⟨rfl, h1.2, h2⟩) | (with_reducible first | refine splitT ?_ | refine splitF ?_) | ((with_reducible refine splitM.mk (fun hsm => ?_) (fun hsm => ?_)) <;> (try exact zx)) | ((with_reducible refine splitB.mk (fun h => ?_) (fun h => ?_)) <;> (try simp only [zs, ne_eq] at h) <;> (try simp (disch := omega) only [w64] at h) <;> (try exact zx)) | (with_reducible intro hz; (try exact absurd hz (Nat.succ_ne_zero _)))))
  all_goals exact ⟨by simp [wdV, spV, Bool.or_assoc]⟩
def s_spanC : Spec := fun args S => match args, S with
  | [.ptr b 0 0, .agg [.int .i64 p, .int .i64 q, .int .i64 p', .int .i64 q']], [.arr .bool [bad] 0 true] => ⟨b = 0, .tup [.agg [.int .i64 (if bad = true then 0 else p), .int .i64 (if bad = true then 0 else q), .int .i64 (if bad = true then 0 else p'), .int .i64 (if bad = true then 0 else q')], .int .i64 (if bad = true then 3 else 0)], [.arr .bool [bad] 0 true]⟩
  | _, _ => noSpec
theorem ok_spanC : SpecOk Try.prog 41 s_spanC := by
  intro args S h; unfold s_spanC at h ⊢; (split at h <;> first | exact False.elim h | skip)
  dsimp only at h ⊢
  rename_i b p q p' q' bad
  obtain rfl := h
  refine funW tabOk (E := []) trivial [] (k := 1) (fn := Try.f41) rfl rfl rfl rfl rfl rfl ?_
  (repeat' ((try (conv => whnf)); first | (with_reducible first | refine And.intro ?_ ?_ | refine WX.of ?_) | exact zc | ((with_reducible refine VC.mk ?_); exact zw) | (with_reducible first | refine splitT ?_ | refine splitF ?_) | ((with_reducible refine splitM.mk (fun hsm => ?_) (fun hsm => ?_)) <;> (try exact zx)) | ((with_reducible refine splitB.mk (fun h => ?_) (fun h => ?_)) <;> (try simp only [zs, ne_eq] at h) <;> (try simp (disch := omega) only [w64] at h) <;> (try exact zx)) | (with_reducible intro hz; (try exact absurd hz (Nat.succ_ne_zero _)))))
  all_goals (refine ⟨?_⟩; simp_all)
def s_none : Spec := fun args S => match args, S with
  | [], [] => ⟨True, .agg [.int .i64 0, .int .i64 1, .int .i64 0, .int .i64 1], []⟩
  | _, _ => noSpec
theorem ok_none : SpecOk Try.prog 40 s_none := by
  intro args S h; unfold s_none at h ⊢; (split at h <;> first | exact False.elim h | skip)
  dsimp only at h ⊢
  refine funW tabOk (E := [(91, s_zero)]) ⟨ok_zero, trivial⟩ [] (k := 0) (fn := Try.f40) rfl rfl rfl rfl rfl rfl ?_
  (repeat' ((try (conv => whnf)); first | (with_reducible first | refine And.intro ?_ ?_ | refine WX.of ?_) | exact zc | ((with_reducible refine VC.mk ?_); exact zw) | (with_reducible first | refine splitT ?_ | refine splitF ?_) | ((with_reducible refine splitM.mk (fun hsm => ?_) (fun hsm => ?_)) <;> (try exact zx)) | ((with_reducible refine splitB.mk (fun h => ?_) (fun h => ?_)) <;> (try simp only [zs, ne_eq] at h) <;> (try simp (disch := omega) only [w64] at h) <;> (try exact zx)) | (with_reducible intro hz; (try exact absurd hz (Nat.succ_ne_zero _)))))
theorem ok_l05Nothing : SpecOk Try.prog 97 s_none := by
  intro args S h; unfold s_none at h ⊢; (split at h <;> first | exact False.elim h | skip)
  dsimp only at h ⊢
  refine funW tabOk (E := [(80, s_num)]) ⟨ok_l01Whole, trivial⟩ [] (k := 0) (fn := Try.f97) rfl rfl rfl rfl rfl rfl ?_
  (repeat' ((try (conv => whnf)); first | (with_reducible first | refine And.intro ?_ ?_ | refine WX.of ?_) | exact zc | ((with_reducible refine VC.mk ?_); exact zw) | (with_reducible first | refine splitT ?_ | refine splitF ?_) | ((with_reducible refine splitM.mk (fun hsm => ?_) (fun hsm => ?_)) <;> (try exact zx)) | ((with_reducible refine splitB.mk (fun h => ?_) (fun h => ?_)) <;> (try simp only [zs, ne_eq] at h) <;> (try simp (disch := omega) only [w64] at h) <;> (try exact zx)) | (with_reducible intro hz; (try exact absurd hz (Nat.succ_ne_zero _)))))
theorem drop_at {α : Type} {W : List α} {k : Nat} {a : α} (h : W[k]? = some a) : W.drop k = a :: W.drop (k + 1) := by
  have hk := (List.getElem?_eq_some_iff.1 h)
  rw [List.drop_eq_getElem_cons hk.1, hk.2]
theorem dm_ok {a b : Int} (ha : 0 ≤ a ∧ a ≤ 100000) (hb : 0 ≤ b ∧ b ≤ 100000) : IntKind.i64.wrap (a - b) = a - b ∧ smF (a - b) 1 := ⟨w64 (by omega), smF_1 (by omega)⟩
theorem ir_n {i : Int} {c n : Nat} (h : 0 ≤ i ∧ i < c) (e : c = n) : 0 ≤ i ∧ i < n := by omega
theorem drop_nil {α : Type} {W : List α} {k : Nat} (h : W.length ≤ k) : W.drop k = [] := List.drop_eq_nil_of_le h
/-- The days from one standard to the next are few. -/
theorem dB {L : List StT} (hc : chB L = true) {day : Int} (hd : 0 ≤ day ∧ day ≤ 100000) {W : List Int} (hW : ∀ j ∈ W, 0 ≤ j ∧ j < L.length) (k : Nat) : 0 ≤ nxD L day (W.drop k) ∧ nxD L day (W.drop k) ≤ 100000 := by
  cases h : W.drop k with
  | nil => exact hd
  | cons i R =>
    have hm : i ∈ W := List.mem_of_mem_drop (by rw [h]; simp)
    obtain ⟨a, _, e, ho⟩ := ch_z hc (hW i hm)
    show 0 ≤ stMd (stAt L i) ∧ stMd (stAt L i) ≤ 100000
    rw [e]; exact ho.md
def s_alongI : Spec := fun args S => match args, S with
  | [.ptr b 0 0, .sl 1 s n x, .sl 2 t m y, .int .i64 day, .agg [.int .i64 p, .int .i64 q, .int .i64 p', .int .i64 q']], [.arr .bool [bad] 0 true, .arr (.prod .str (.prod (.int .i64) (.prod (.prod (.prod (.int .i64) (.int .i64)) (.prod (.int .i64) (.int .i64))) (.prod (.prod (.int .i64) (.int .i64)) (.prod (.int .i64) (.int .i64)))))) l 10 wr, .arr (.int .i64) w 1 ww] => ⟨b = 0 ∧ (s + n ≤ l.length ∧ chB (seg l s n) = true) ∧ (t + m ≤ w.length ∧ m ≤ 40 ∧ ∀ j ∈ seg w t m, 0 ≤ j ∧ j < (seg l s n).length) ∧ (0 ≤ day ∧ day ≤ 100000) ∧ smS ((p, q), p', q'), .agg [.int .i64 (alT (seg l s n) day (seg w t m) (((p, q), p', q'), bad)).1.1.1, .int .i64 (alT (seg l s n) day (seg w t m) (((p, q), p', q'), bad)).1.1.2, .int .i64 (alT (seg l s n) day (seg w t m) (((p, q), p', q'), bad)).1.2.1, .int .i64 (alT (seg l s n) day (seg w t m) (((p, q), p', q'), bad)).1.2.2], [.arr .bool [(alT (seg l s n) day (seg w t m) (((p, q), p', q'), bad)).2] 0 true, .arr (.prod .str (.prod (.int .i64) (.prod (.prod (.prod (.int .i64) (.int .i64)) (.prod (.int .i64) (.int .i64))) (.prod (.prod (.int .i64) (.int .i64)) (.prod (.int .i64) (.int .i64)))))) l 10 wr, .arr (.int .i64) w 1 ww]⟩
  | _, _ => noSpec
set_option maxHeartbeats 1600000 in
theorem ok_alongI : SpecOk Try.prog 45 s_alongI := by
  intro args S h; unfold s_alongI at h ⊢; (split at h <;> first | exact False.elim h | skip)
  dsimp only at h ⊢
  rename_i b s n x t m y day p q p' q' bad l wr w ww
  obtain ⟨rfl, ⟨h1, hc⟩, ⟨h3, h4, hW⟩, hd, hs⟩ := h
  have hL := seg_len h1
  have hM := seg_len h3
  have hl30 := ch_len hc
  refine funW tabOk (E := [(92, s_plOI), (48, s_num), (47, s_mulO), (46, s_wdI)]) ⟨ok_plOI, ok_num, ok_mulO, ok_wdI, trivial⟩ [(8, [(8, 0), (8, 2), (11, 0)])] (k := 3) (fn := Try.f45) rfl rfl rfl rfl rfl rfl ?_
  (repeat' ((try (conv => whnf)); first | (with_reducible first | refine And.intro ?_ ?_ | refine WX.of ?_) | exact zc | ((with_reducible refine VC.mk ?_); exact zw) | (with_reducible first | refine splitT ?_ | refine splitF ?_) | ((with_reducible refine splitM.mk (fun hsm => ?_) (fun hsm => ?_)) <;> (try exact zx)) | ((with_reducible refine splitB.mk (fun h => ?_) (fun h => ?_)) <;> (try simp only [zs, ne_eq] at h) <;> (try simp (disch := omega) only [w64] at h) <;> (try exact zx)) | (with_reducible intro hz; (try exact absurd hz (Nat.succ_ne_zero _)))))
  refine loopW tabOk (E := [(92, s_plOI), (48, s_num), (47, s_mulO), (46, s_wdI)]) ⟨ok_plOI, ok_num, ok_mulO, ok_wdI, trivial⟩ [(8, [(8, 0), (8, 2), (11, 0)])] (σ := Nat × SpT × Bool) (fun z => [(0, .ptr 0 0 0), (1, .sl 1 s n x), (2, .sl 2 t m y), (3, .int .i64 day), (9, .ptr 3 0 0), (10, .ptr 4 0 0), (15, .sl 2 t m y), (16, .int .i64 m), (17, .int .i64 z.1)]) (fun z => [.arr .bool [z.2.2] 0 true, .arr (.prod .str (.prod (.int .i64) (.prod (.prod (.prod (.int .i64) (.int .i64)) (.prod (.int .i64) (.int .i64))) (.prod (.prod (.int .i64) (.int .i64)) (.prod (.int .i64) (.int .i64)))))) l 10 wr, .arr (.int .i64) w 1 ww, .arr (.prod (.prod (.int .i64) (.int .i64)) (.prod (.int .i64) (.int .i64))) [z.2.1] 0 true, .arr (.prod (.prod (.int .i64) (.int .i64)) (.prod (.int .i64) (.int .i64))) [((0, 0), 0, 0)] 0 true]) (fun z => m - z.1) (fun z => z.1 ≤ m ∧ smS z.2.1 ∧ alT (seg l s n) day (seg w t m) (((p, q), p', q'), bad) = alT (seg l s n) day ((seg w t m).drop z.1) z.2) (0, ((p, q), p', q'), bad) ⟨Nat.zero_le _, hs, rfl⟩ ?_ ?_
  · (repeat' ((try (conv => whnf)); first | (with_reducible first | refine And.intro ?_ ?_ | refine WX.of ?_) | exact zc | ((with_reducible refine VC.mk ?_); exact zw) | (with_reducible first | refine splitT ?_ | refine splitF ?_) | ((with_reducible refine splitM.mk (fun hsm => ?_) (fun hsm => ?_)) <;> (try exact zx)) | ((with_reducible refine splitB.mk (fun h => ?_) (fun h => ?_)) <;> (try simp only [zs, ne_eq] at h) <;> (try simp (disch := omega) only [w64] at h) <;> (try exact zx)) | (with_reducible intro hz; (try exact absurd hz (Nat.succ_ne_zero _)))))
  · intro ⟨k, ⟨⟨cp, cq⟩, cp', cq'⟩, bd⟩ ⟨hk, hsm, he⟩
    dsimp only at hk hsm he ⊢
    by_cases hlt : k < m
    · obtain ⟨i, hi⟩ := get_some (l := seg w t m) (i := k) (by omega)
      have hir := hW i (List.mem_of_getElem? hi)
      obtain ⟨⟨nm, fr, ⟨⟨p, q⟩, p', q'⟩, ⟨dp, dq⟩, md, gd⟩, ha, hst, ho⟩ := ch_z hc hir
      have hdb := dB hc hd hW (k + 1)
      have hir' := ir_n hir hL
      have hvl := smS_ok ho.vl
      have hdr := smF_ok ho.dr
      have hmd := ho.md
      dsimp only at hvl hdr hmd
      rw [drop_at hi, alT, hst] at he
      by_cases hlast : k + 1 < m
      · obtain ⟨i2, hi2⟩ := get_some (l := seg w t m) (i := k + 1) (by omega)
        have hir2 := hW i2 (List.mem_of_getElem? hi2)
        obtain ⟨⟨nm0, fr0, ⟨⟨p0, q0⟩, p0', q0'⟩, ⟨dp0, dq0⟩, md0, gd0⟩, ha2, hst2, ho2⟩ := ch_z hc hir2
        have hir2' := ir_n hir2 hL
        have hnx : nxD (seg l s n) day ((seg w t m).drop (k + 1)) = md0 := by rw [drop_at hi2]; show stMd _ = md0; rw [hst2]; rfl
        rw [hnx] at he hdb
        (repeat' ((try dsimp only); (try (conv => whnf)); first | (with_reducible first | refine And.intro ?_ ?_ | refine WX.of ?_) | exact zc | ((with_reducible refine VC.mk ?_); exact zw) | with_reducible refine atL_i hi ?_ | with_reducible refine atL_p (seg_get ha).1 ?_ | with_reducible refine atL_p (seg_get ha2).1 ?_ | with_reducible refine atL_e (j := t + (k + 1)) (by simp (disch := omega) only [w64]; omega) (seg_get hi2).1 ?_ | ((with_reducible refine VC.mk ?_); exact hir') | ((with_reducible refine VC.mk ?_); exact hir2') | ((with_reducible refine VC.mk ?_); exact ⟨rfl, hsm, hvl⟩) | ((with_reducible refine VC.mk ?_); exact ⟨rfl, hdr, by (try dsimp only); rw [(dm_ok hdb hmd).1]; exact (dm_ok hdb hmd).2⟩) | ((with_reducible refine VC.mk ?_); exact ⟨rfl, smS_pl _ _, smF_mu _ _⟩) | (with_reducible first | refine splitT ?_ | refine splitF ?_) | ((with_reducible refine splitM.mk (fun hsm => ?_) (fun hsm => ?_)) <;> (try exact zx)) | ((with_reducible refine splitB.mk (fun h => ?_) (fun h => ?_)) <;> (try simp only [zs, ne_eq] at h) <;> (try simp (disch := omega) only [w64] at h) <;> (try exact zx)) | (with_reducible intro hz; (try exact absurd hz (Nat.succ_ne_zero _)))))
        refine ⟨(k + 1, alV1 ((cp, cq), cp', cq') (nm, fr, ((p, q), p', q'), (dp, dq), md, gd) md0, bd || alB1 ((cp, cq), cp', cq') (nm, fr, ((p, q), p', q'), (dp, dq), md, gd) md0), by dsimp only; omega, ⟨hlt, smS_al1 _ _ _, he⟩, ?_⟩
        (repeat' ((try (conv => whnf)); first | (with_reducible first | refine And.intro ?_ ?_ | refine WX.of ?_) | exact zc | ((with_reducible refine VC.mk ?_); exact zw) | (with_reducible first | refine splitT ?_ | refine splitF ?_) | ((with_reducible refine splitM.mk (fun hsm => ?_) (fun hsm => ?_)) <;> (try exact zx)) | ((with_reducible refine splitB.mk (fun h => ?_) (fun h => ?_)) <;> (try simp only [zs, ne_eq] at h) <;> (try simp (disch := omega) only [w64] at h) <;> (try exact zx)) | (with_reducible intro hz; (try exact absurd hz (Nat.succ_ne_zero _)))))
        all_goals (refine ⟨?_⟩; rw [(dm_ok hdb hmd).1]; simp [alV1, alB1, drV, Bool.or_assoc])
      · have hnx : nxD (seg l s n) day ((seg w t m).drop (k + 1)) = day := by rw [drop_nil (by omega)]; rfl
        rw [hnx] at he hdb
        (repeat' ((try dsimp only); (try (conv => whnf)); first | (with_reducible first | refine And.intro ?_ ?_ | refine WX.of ?_) | exact zc | ((with_reducible refine VC.mk ?_); exact zw) | with_reducible refine atL_i hi ?_ | with_reducible refine atL_p (seg_get ha).1 ?_ | ((with_reducible refine VC.mk ?_); exact hir') | ((with_reducible refine VC.mk ?_); exact ⟨rfl, hsm, hvl⟩) | ((with_reducible refine VC.mk ?_); exact ⟨rfl, hdr, by (try dsimp only); rw [(dm_ok hdb hmd).1]; exact (dm_ok hdb hmd).2⟩) | ((with_reducible refine VC.mk ?_); exact ⟨rfl, smS_pl _ _, smF_mu _ _⟩) | (with_reducible first | refine splitT ?_ | refine splitF ?_) | ((with_reducible refine splitM.mk (fun hsm => ?_) (fun hsm => ?_)) <;> (try exact zx)) | ((with_reducible refine splitB.mk (fun h => ?_) (fun h => ?_)) <;> (try simp only [zs, ne_eq] at h) <;> (try simp (disch := omega) only [w64] at h) <;> (try exact zx)) | (with_reducible intro hz; (try exact absurd hz (Nat.succ_ne_zero _)))))
        refine ⟨(k + 1, alV1 ((cp, cq), cp', cq') (nm, fr, ((p, q), p', q'), (dp, dq), md, gd) day, bd || alB1 ((cp, cq), cp', cq') (nm, fr, ((p, q), p', q'), (dp, dq), md, gd) day), by dsimp only; omega, ⟨hlt, smS_al1 _ _ _, he⟩, ?_⟩
        (repeat' ((try (conv => whnf)); first | (with_reducible first | refine And.intro ?_ ?_ | refine WX.of ?_) | exact zc | ((with_reducible refine VC.mk ?_); exact zw) | (with_reducible first | refine splitT ?_ | refine splitF ?_) | ((with_reducible refine splitM.mk (fun hsm => ?_) (fun hsm => ?_)) <;> (try exact zx)) | ((with_reducible refine splitB.mk (fun h => ?_) (fun h => ?_)) <;> (try simp only [zs, ne_eq] at h) <;> (try simp (disch := omega) only [w64] at h) <;> (try exact zx)) | (with_reducible intro hz; (try exact absurd hz (Nat.succ_ne_zero _)))))
        all_goals (refine ⟨?_⟩; rw [(dm_ok hdb hmd).1]; simp [alV1, alB1, drV, Bool.or_assoc])
    · obtain rfl : k = m := by omega
      rw [drop_nil (by omega), alT] at he
      rw [he]
      (repeat' ((try (conv => whnf)); first | (with_reducible first | refine And.intro ?_ ?_ | refine WX.of ?_) | exact zc | ((with_reducible refine VC.mk ?_); exact zw) | (with_reducible first | refine splitT ?_ | refine splitF ?_) | ((with_reducible refine splitM.mk (fun hsm => ?_) (fun hsm => ?_)) <;> (try exact zx)) | ((with_reducible refine splitB.mk (fun h => ?_) (fun h => ?_)) <;> (try simp only [zs, ne_eq] at h) <;> (try simp (disch := omega) only [w64] at h) <;> (try exact zx)) | (with_reducible intro hz; (try exact absurd hz (Nat.succ_ne_zero _)))))
end Go.Proofs.Ytnmpgofhdjcpaaa.Eng
