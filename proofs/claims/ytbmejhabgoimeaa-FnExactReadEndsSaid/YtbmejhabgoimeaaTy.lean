/- The types of the program, as a table: no conditions of its own. -/
import Derived.Test.YtbmejhabgoimeaaSB
import Derived.Test.YtbmejhabgoimeaaProg
import Derived.KernelRfl
set_option linter.unusedVariables false
set_option linter.unusedSimpArgs false
set_option maxRecDepth 100000
namespace Go.Proofs.Ytbmejhabgoimeaa.Eng
open Go Go.RowKit
def t_1 : TyD := { und := TypeDesc.func #[] #[] false, size := 1, bytes := 8, zero := [Value.nilFunc], fl := false }
theorem i_1 : TabE Try.prog (1, t_1, false) := ⟨by kernel_rfl, fun h => by simp at h⟩
def t_2 : TyD := { und := TypeDesc.int IntKind.i64, size := 1, bytes := 8, zero := [Value.int IntKind.i64 0], fl := true }
theorem i_2 : TabE Try.prog (2, t_2, false) := ⟨by kernel_rfl, fun h => by simp at h⟩
def t_3 : TyD := { und := TypeDesc.int IntKind.i64, size := 1, bytes := 8, zero := [Value.int IntKind.i64 0], fl := true }
theorem i_3 : TabE Try.prog (3, t_3, false) := ⟨by kernel_rfl, fun h => by simp at h⟩
def t_4 : TyD := { und := TypeDesc.bool, size := 1, bytes := 1, zero := [Value.bool false], fl := true }
theorem i_4 : TabE Try.prog (4, t_4, false) := ⟨by kernel_rfl, fun h => by simp at h⟩
def t_5 : TyD := { und := TypeDesc.int IntKind.u8, size := 1, bytes := 1, zero := [Value.int IntKind.u8 0], fl := true }
theorem i_5 : TabE Try.prog (5, t_5, false) := ⟨by kernel_rfl, fun h => by simp at h⟩
def t_6 : TyD := { und := TypeDesc.int IntKind.u8, size := 1, bytes := 1, zero := [Value.int IntKind.u8 0], fl := true }
theorem i_6 : TabE Try.prog (6, t_6, false) := ⟨by kernel_rfl, fun h => by simp at h⟩
def t_7 : TyD := { und := TypeDesc.struct #[{ name := "x", type := 2, offset := 0, embedded := false, tag := "", pkgPath := "runtime", byteOffset := 0 }, { name := "y", type := 3, offset := 1, embedded := false, tag := "", pkgPath := "runtime", byteOffset := 8 }, { name := "signed", type := 4, offset := 2, embedded := false, tag := "", pkgPath := "runtime", byteOffset := 16 }, { name := "code", type := 6, offset := 3, embedded := false, tag := "", pkgPath := "runtime", byteOffset := 17 }], size := 4, bytes := 24, zero := [Value.int IntKind.i64 0, Value.int IntKind.i64 0, Value.bool false, Value.int IntKind.u8 0], fl := true }
theorem i_7 : TabE Try.prog (7, t_7, true) := ⟨by kernel_rfl, fun _ => by kernel_rfl⟩
def t_8 : TyD := { und := TypeDesc.struct #[{ name := "x", type := 2, offset := 0, embedded := false, tag := "", pkgPath := "runtime", byteOffset := 0 }, { name := "y", type := 3, offset := 1, embedded := false, tag := "", pkgPath := "runtime", byteOffset := 8 }, { name := "signed", type := 4, offset := 2, embedded := false, tag := "", pkgPath := "runtime", byteOffset := 16 }, { name := "code", type := 6, offset := 3, embedded := false, tag := "", pkgPath := "runtime", byteOffset := 17 }], size := 4, bytes := 24, zero := [Value.int IntKind.i64 0, Value.int IntKind.i64 0, Value.bool false, Value.int IntKind.u8 0], fl := true }
theorem i_8 : TabE Try.prog (8, t_8, true) := ⟨by kernel_rfl, fun _ => by kernel_rfl⟩
def t_9 : TyD := { und := TypeDesc.string, size := 1, bytes := 16, zero := [Value.string ⟨#[]⟩], fl := true }
theorem i_9 : TabE Try.prog (9, t_9, false) := ⟨by kernel_rfl, fun h => by simp at h⟩
def t_10 : TyD := { und := TypeDesc.string, size := 1, bytes := 16, zero := [Value.string ⟨#[]⟩], fl := true }
theorem i_10 : TabE Try.prog (10, t_10, false) := ⟨by kernel_rfl, fun h => by simp at h⟩
def t_11 : TyD := { und := TypeDesc.string, size := 1, bytes := 16, zero := [Value.string ⟨#[]⟩], fl := true }
theorem i_11 : TabE Try.prog (11, t_11, false) := ⟨by kernel_rfl, fun h => by simp at h⟩
def t_12 : TyD := { und := TypeDesc.int IntKind.u64, size := 1, bytes := 8, zero := [Value.int IntKind.u64 0], fl := true }
theorem i_12 : TabE Try.prog (12, t_12, false) := ⟨by kernel_rfl, fun h => by simp at h⟩
def t_13 : TyD := { und := TypeDesc.struct #[{ name := "msg", type := 9, offset := 0, embedded := false, tag := "", pkgPath := "runtime", byteOffset := 0 }, { name := "addr", type := 12, offset := 1, embedded := false, tag := "", pkgPath := "runtime", byteOffset := 16 }], size := 2, bytes := 24, zero := [Value.string ⟨#[]⟩, Value.int IntKind.u64 0], fl := true }
theorem i_13 : TabE Try.prog (13, t_13, false) := ⟨by kernel_rfl, fun h => by simp at h⟩
def t_14 : TyD := { und := TypeDesc.struct #[{ name := "msg", type := 9, offset := 0, embedded := false, tag := "", pkgPath := "runtime", byteOffset := 0 }, { name := "addr", type := 12, offset := 1, embedded := false, tag := "", pkgPath := "runtime", byteOffset := 16 }], size := 2, bytes := 24, zero := [Value.string ⟨#[]⟩, Value.int IntKind.u64 0], fl := true }
theorem i_14 : TabE Try.prog (14, t_14, false) := ⟨by kernel_rfl, fun h => by simp at h⟩
def t_15 : TyD := { und := TypeDesc.pointer 160, size := 1, bytes := 8, zero := [Value.pointer none], fl := false }
theorem i_15 : TabE Try.prog (15, t_15, false) := ⟨by kernel_rfl, fun h => by simp at h⟩
def t_16 : TyD := { und := TypeDesc.pointer 163, size := 1, bytes := 8, zero := [Value.pointer none], fl := false }
theorem i_16 : TabE Try.prog (16, t_16, false) := ⟨by kernel_rfl, fun h => by simp at h⟩
def t_17 : TyD := { und := TypeDesc.pointer 173, size := 1, bytes := 8, zero := [Value.pointer none], fl := false }
theorem i_17 : TabE Try.prog (17, t_17, false) := ⟨by kernel_rfl, fun h => by simp at h⟩
def t_18 : TyD := { und := TypeDesc.struct #[{ name := "typ", type := 17, offset := 0, embedded := false, tag := "", pkgPath := "internal/runtime/maps", byteOffset := 0 }], size := 1, bytes := 8, zero := [Value.pointer none], fl := false }
theorem i_18 : TabE Try.prog (18, t_18, false) := ⟨by kernel_rfl, fun h => by simp at h⟩
def t_19 : TyD := { und := TypeDesc.struct #[{ name := "typ", type := 17, offset := 0, embedded := false, tag := "", pkgPath := "internal/runtime/maps", byteOffset := 0 }], size := 1, bytes := 8, zero := [Value.pointer none], fl := false }
theorem i_19 : TabE Try.prog (19, t_19, false) := ⟨by kernel_rfl, fun h => by simp at h⟩
def t_21 : TyD := { und := TypeDesc.int IntKind.i32, size := 1, bytes := 4, zero := [Value.int IntKind.i32 0], fl := true }
theorem i_21 : TabE Try.prog (21, t_21, false) := ⟨by kernel_rfl, fun h => by simp at h⟩
def t_22 : TyD := { und := TypeDesc.struct #[{ name := "P", type := 2, offset := 0, embedded := false, tag := "", pkgPath := "", byteOffset := 0 }, { name := "Q", type := 2, offset := 1, embedded := false, tag := "", pkgPath := "", byteOffset := 8 }], size := 2, bytes := 16, zero := [Value.int IntKind.i64 0, Value.int IntKind.i64 0], fl := true }
theorem i_22 : TabE Try.prog (22, t_22, true) := ⟨by kernel_rfl, fun _ => by kernel_rfl⟩
def t_23 : TyD := { und := TypeDesc.struct #[{ name := "P", type := 2, offset := 0, embedded := false, tag := "", pkgPath := "", byteOffset := 0 }, { name := "Q", type := 2, offset := 1, embedded := false, tag := "", pkgPath := "", byteOffset := 8 }], size := 2, bytes := 16, zero := [Value.int IntKind.i64 0, Value.int IntKind.i64 0], fl := true }
theorem i_23 : TabE Try.prog (23, t_23, true) := ⟨by kernel_rfl, fun _ => by kernel_rfl⟩
def t_24 : TyD := { und := TypeDesc.slice 23, size := 1, bytes := 24, zero := [Value.slice none 0 0], fl := false }
theorem i_24 : TabE Try.prog (24, t_24, false) := ⟨by kernel_rfl, fun h => by simp at h⟩
def t_25 : TyD := { und := TypeDesc.struct #[{ name := "Unit", type := 23, offset := 0, embedded := false, tag := "", pkgPath := "", byteOffset := 0 }, { name := "Errors", type := 24, offset := 2, embedded := false, tag := "", pkgPath := "", byteOffset := 16 }], size := 3, bytes := 40, zero := [Value.int IntKind.i64 0, Value.int IntKind.i64 0, Value.slice none 0 0], fl := false }
theorem i_25 : TabE Try.prog (25, t_25, true) := ⟨by kernel_rfl, fun _ => by kernel_rfl⟩
def t_26 : TyD := { und := TypeDesc.struct #[{ name := "Unit", type := 23, offset := 0, embedded := false, tag := "", pkgPath := "", byteOffset := 0 }, { name := "Errors", type := 24, offset := 2, embedded := false, tag := "", pkgPath := "", byteOffset := 16 }], size := 3, bytes := 40, zero := [Value.int IntKind.i64 0, Value.int IntKind.i64 0, Value.slice none 0 0], fl := false }
theorem i_26 : TabE Try.prog (26, t_26, true) := ⟨by kernel_rfl, fun _ => by kernel_rfl⟩
def t_27 : TyD := { und := TypeDesc.struct #[{ name := "Parts", type := 2, offset := 0, embedded := false, tag := "", pkgPath := "", byteOffset := 0 }, { name := "Back", type := 4, offset := 1, embedded := false, tag := "", pkgPath := "", byteOffset := 8 }], size := 2, bytes := 16, zero := [Value.int IntKind.i64 0, Value.bool false], fl := true }
theorem i_27 : TabE Try.prog (27, t_27, true) := ⟨by kernel_rfl, fun _ => by kernel_rfl⟩
def t_28 : TyD := { und := TypeDesc.struct #[{ name := "Parts", type := 2, offset := 0, embedded := false, tag := "", pkgPath := "", byteOffset := 0 }, { name := "Back", type := 4, offset := 1, embedded := false, tag := "", pkgPath := "", byteOffset := 8 }], size := 2, bytes := 16, zero := [Value.int IntKind.i64 0, Value.bool false], fl := true }
theorem i_28 : TabE Try.prog (28, t_28, true) := ⟨by kernel_rfl, fun _ => by kernel_rfl⟩
def t_29 : TyD := { und := TypeDesc.slice 94, size := 1, bytes := 24, zero := [Value.slice none 0 0], fl := false }
theorem i_29 : TabE Try.prog (29, t_29, false) := ⟨by kernel_rfl, fun h => by simp at h⟩
def t_30 : TyD := { und := TypeDesc.struct #[{ name := "Scale", type := 26, offset := 0, embedded := false, tag := "", pkgPath := "", byteOffset := 0 }, { name := "Vernier", type := 28, offset := 3, embedded := false, tag := "", pkgPath := "", byteOffset := 40 }, { name := "Grows", type := 23, offset := 5, embedded := false, tag := "", pkgPath := "", byteOffset := 56 }, { name := "Things", type := 29, offset := 7, embedded := false, tag := "", pkgPath := "", byteOffset := 72 }], size := 8, bytes := 96, zero := [Value.int IntKind.i64 0, Value.int IntKind.i64 0, Value.slice none 0 0, Value.int IntKind.i64 0, Value.bool false, Value.int IntKind.i64 0, Value.int IntKind.i64 0, Value.slice none 0 0], fl := false }
theorem i_30 : TabE Try.prog (30, t_30, true) := ⟨by kernel_rfl, fun _ => by kernel_rfl⟩
def t_31 : TyD := { und := TypeDesc.struct #[{ name := "Scale", type := 26, offset := 0, embedded := false, tag := "", pkgPath := "", byteOffset := 0 }, { name := "Vernier", type := 28, offset := 3, embedded := false, tag := "", pkgPath := "", byteOffset := 40 }, { name := "Grows", type := 23, offset := 5, embedded := false, tag := "", pkgPath := "", byteOffset := 56 }, { name := "Things", type := 29, offset := 7, embedded := false, tag := "", pkgPath := "", byteOffset := 72 }], size := 8, bytes := 96, zero := [Value.int IntKind.i64 0, Value.int IntKind.i64 0, Value.slice none 0 0, Value.int IntKind.i64 0, Value.bool false, Value.int IntKind.i64 0, Value.int IntKind.i64 0, Value.slice none 0 0], fl := false }
theorem i_31 : TabE Try.prog (31, t_31, true) := ⟨by kernel_rfl, fun _ => by kernel_rfl⟩
def t_32 : TyD := { und := TypeDesc.struct #[{ name := "Thing", type := 2, offset := 0, embedded := false, tag := "", pkgPath := "", byteOffset := 0 }, { name := "Warm", type := 23, offset := 1, embedded := false, tag := "", pkgPath := "", byteOffset := 8 }, { name := "Start", type := 23, offset := 3, embedded := false, tag := "", pkgPath := "", byteOffset := 24 }], size := 5, bytes := 40, zero := [Value.int IntKind.i64 0, Value.int IntKind.i64 0, Value.int IntKind.i64 0, Value.int IntKind.i64 0, Value.int IntKind.i64 0], fl := true }
theorem i_32 : TabE Try.prog (32, t_32, true) := ⟨by kernel_rfl, fun _ => by kernel_rfl⟩
def t_33 : TyD := { und := TypeDesc.struct #[{ name := "Thing", type := 2, offset := 0, embedded := false, tag := "", pkgPath := "", byteOffset := 0 }, { name := "Warm", type := 23, offset := 1, embedded := false, tag := "", pkgPath := "", byteOffset := 8 }, { name := "Start", type := 23, offset := 3, embedded := false, tag := "", pkgPath := "", byteOffset := 24 }], size := 5, bytes := 40, zero := [Value.int IntKind.i64 0, Value.int IntKind.i64 0, Value.int IntKind.i64 0, Value.int IntKind.i64 0, Value.int IntKind.i64 0], fl := true }
theorem i_33 : TabE Try.prog (33, t_33, true) := ⟨by kernel_rfl, fun _ => by kernel_rfl⟩
def t_34 : TyD := { und := TypeDesc.func #[31, 3] #[3] false, size := 1, bytes := 8, zero := [Value.nilFunc], fl := false }
theorem i_34 : TabE Try.prog (34, t_34, false) := ⟨by kernel_rfl, fun h => by simp at h⟩
def t_35 : TyD := { und := TypeDesc.struct #[{ name := "P", type := 2, offset := 0, embedded := false, tag := "", pkgPath := "", byteOffset := 0 }, { name := "Q", type := 2, offset := 1, embedded := false, tag := "", pkgPath := "", byteOffset := 8 }], size := 2, bytes := 16, zero := [Value.int IntKind.i64 0, Value.int IntKind.i64 0], fl := true }
theorem i_35 : TabE Try.prog (35, t_35, true) := ⟨by kernel_rfl, fun _ => by kernel_rfl⟩
def t_37 : TyD := { und := TypeDesc.func #[44, 47] #[35, 35, 2] false, size := 1, bytes := 8, zero := [Value.nilFunc], fl := false }
theorem i_37 : TabE Try.prog (37, t_37, false) := ⟨by kernel_rfl, fun h => by simp at h⟩
def t_38 : TyD := { und := TypeDesc.slice 35, size := 1, bytes := 24, zero := [Value.slice none 0 0], fl := false }
theorem i_38 : TabE Try.prog (38, t_38, false) := ⟨by kernel_rfl, fun h => by simp at h⟩
def t_39 : TyD := { und := TypeDesc.struct #[{ name := "Unit", type := 35, offset := 0, embedded := false, tag := "", pkgPath := "", byteOffset := 0 }, { name := "Errors", type := 38, offset := 2, embedded := false, tag := "", pkgPath := "", byteOffset := 16 }], size := 3, bytes := 40, zero := [Value.int IntKind.i64 0, Value.int IntKind.i64 0, Value.slice none 0 0], fl := false }
theorem i_39 : TabE Try.prog (39, t_39, true) := ⟨by kernel_rfl, fun _ => by kernel_rfl⟩
def t_40 : TyD := { und := TypeDesc.struct #[{ name := "Unit", type := 35, offset := 0, embedded := false, tag := "", pkgPath := "", byteOffset := 0 }, { name := "Errors", type := 38, offset := 2, embedded := false, tag := "", pkgPath := "", byteOffset := 16 }], size := 3, bytes := 40, zero := [Value.int IntKind.i64 0, Value.int IntKind.i64 0, Value.slice none 0 0], fl := false }
theorem i_40 : TabE Try.prog (40, t_40, true) := ⟨by kernel_rfl, fun _ => by kernel_rfl⟩
def t_41 : TyD := { und := TypeDesc.struct #[{ name := "Parts", type := 2, offset := 0, embedded := false, tag := "", pkgPath := "", byteOffset := 0 }, { name := "Back", type := 4, offset := 1, embedded := false, tag := "", pkgPath := "", byteOffset := 8 }], size := 2, bytes := 16, zero := [Value.int IntKind.i64 0, Value.bool false], fl := true }
theorem i_41 : TabE Try.prog (41, t_41, true) := ⟨by kernel_rfl, fun _ => by kernel_rfl⟩
def t_42 : TyD := { und := TypeDesc.slice 61, size := 1, bytes := 24, zero := [Value.slice none 0 0], fl := false }
theorem i_42 : TabE Try.prog (42, t_42, false) := ⟨by kernel_rfl, fun h => by simp at h⟩
def t_43 : TyD := { und := TypeDesc.struct #[{ name := "Scale", type := 40, offset := 0, embedded := false, tag := "", pkgPath := "", byteOffset := 0 }, { name := "Vernier", type := 41, offset := 3, embedded := false, tag := "", pkgPath := "", byteOffset := 40 }, { name := "Grows", type := 35, offset := 5, embedded := false, tag := "", pkgPath := "", byteOffset := 56 }, { name := "Things", type := 42, offset := 7, embedded := false, tag := "", pkgPath := "", byteOffset := 72 }], size := 8, bytes := 96, zero := [Value.int IntKind.i64 0, Value.int IntKind.i64 0, Value.slice none 0 0, Value.int IntKind.i64 0, Value.bool false, Value.int IntKind.i64 0, Value.int IntKind.i64 0, Value.slice none 0 0], fl := false }
theorem i_43 : TabE Try.prog (43, t_43, true) := ⟨by kernel_rfl, fun _ => by kernel_rfl⟩
def t_44 : TyD := { und := TypeDesc.struct #[{ name := "Scale", type := 40, offset := 0, embedded := false, tag := "", pkgPath := "", byteOffset := 0 }, { name := "Vernier", type := 41, offset := 3, embedded := false, tag := "", pkgPath := "", byteOffset := 40 }, { name := "Grows", type := 35, offset := 5, embedded := false, tag := "", pkgPath := "", byteOffset := 56 }, { name := "Things", type := 42, offset := 7, embedded := false, tag := "", pkgPath := "", byteOffset := 72 }], size := 8, bytes := 96, zero := [Value.int IntKind.i64 0, Value.int IntKind.i64 0, Value.slice none 0 0, Value.int IntKind.i64 0, Value.bool false, Value.int IntKind.i64 0, Value.int IntKind.i64 0, Value.slice none 0 0], fl := false }
theorem i_44 : TabE Try.prog (44, t_44, true) := ⟨by kernel_rfl, fun _ => by kernel_rfl⟩
def t_45 : TyD := { und := TypeDesc.func #[31] #[44] false, size := 1, bytes := 8, zero := [Value.nilFunc], fl := false }
theorem i_45 : TabE Try.prog (45, t_45, false) := ⟨by kernel_rfl, fun h => by simp at h⟩
def t_46 : TyD := { und := TypeDesc.struct #[{ name := "Thing", type := 2, offset := 0, embedded := false, tag := "", pkgPath := "", byteOffset := 0 }, { name := "Warm", type := 35, offset := 1, embedded := false, tag := "", pkgPath := "", byteOffset := 8 }, { name := "Start", type := 35, offset := 3, embedded := false, tag := "", pkgPath := "", byteOffset := 24 }], size := 5, bytes := 40, zero := [Value.int IntKind.i64 0, Value.int IntKind.i64 0, Value.int IntKind.i64 0, Value.int IntKind.i64 0, Value.int IntKind.i64 0], fl := true }
theorem i_46 : TabE Try.prog (46, t_46, true) := ⟨by kernel_rfl, fun _ => by kernel_rfl⟩
def t_47 : TyD := { und := TypeDesc.struct #[{ name := "Thing", type := 2, offset := 0, embedded := false, tag := "", pkgPath := "", byteOffset := 0 }, { name := "Warm", type := 35, offset := 1, embedded := false, tag := "", pkgPath := "", byteOffset := 8 }, { name := "Start", type := 35, offset := 3, embedded := false, tag := "", pkgPath := "", byteOffset := 24 }], size := 5, bytes := 40, zero := [Value.int IntKind.i64 0, Value.int IntKind.i64 0, Value.int IntKind.i64 0, Value.int IntKind.i64 0, Value.int IntKind.i64 0], fl := true }
theorem i_47 : TabE Try.prog (47, t_47, true) := ⟨by kernel_rfl, fun _ => by kernel_rfl⟩
def t_48 : TyD := { und := TypeDesc.func #[33] #[47] false, size := 1, bytes := 8, zero := [Value.nilFunc], fl := false }
theorem i_48 : TabE Try.prog (48, t_48, false) := ⟨by kernel_rfl, fun h => by simp at h⟩
def t_49 : TyD := { und := TypeDesc.func #[35, 35] #[4] false, size := 1, bytes := 8, zero := [Value.nilFunc], fl := false }
theorem i_49 : TabE Try.prog (49, t_49, false) := ⟨by kernel_rfl, fun h => by simp at h⟩
def t_50 : TyD := { und := TypeDesc.func #[44, 44] #[4] false, size := 1, bytes := 8, zero := [Value.nilFunc], fl := false }
theorem i_50 : TabE Try.prog (50, t_50, false) := ⟨by kernel_rfl, fun h => by simp at h⟩
def t_51 : TyD := { und := TypeDesc.func #[31, 33] #[4] false, size := 1, bytes := 8, zero := [Value.nilFunc], fl := false }
theorem i_51 : TabE Try.prog (51, t_51, false) := ⟨by kernel_rfl, fun h => by simp at h⟩
def t_52 : TyD := { und := TypeDesc.struct #[{ name := "Low", type := 35, offset := 0, embedded := false, tag := "", pkgPath := "", byteOffset := 0 }, { name := "High", type := 35, offset := 2, embedded := false, tag := "", pkgPath := "", byteOffset := 16 }], size := 4, bytes := 32, zero := [Value.int IntKind.i64 0, Value.int IntKind.i64 0, Value.int IntKind.i64 0, Value.int IntKind.i64 0], fl := true }
theorem i_52 : TabE Try.prog (52, t_52, true) := ⟨by kernel_rfl, fun _ => by kernel_rfl⟩
def t_53 : TyD := { und := TypeDesc.struct #[{ name := "Low", type := 35, offset := 0, embedded := false, tag := "", pkgPath := "", byteOffset := 0 }, { name := "High", type := 35, offset := 2, embedded := false, tag := "", pkgPath := "", byteOffset := 16 }], size := 4, bytes := 32, zero := [Value.int IntKind.i64 0, Value.int IntKind.i64 0, Value.int IntKind.i64 0, Value.int IntKind.i64 0], fl := true }
theorem i_53 : TabE Try.prog (53, t_53, true) := ⟨by kernel_rfl, fun _ => by kernel_rfl⟩
def t_54 : TyD := { und := TypeDesc.struct #[{ name := "Shot", type := 47, offset := 0, embedded := false, tag := "", pkgPath := "", byteOffset := 0 }, { name := "First", type := 35, offset := 5, embedded := false, tag := "", pkgPath := "", byteOffset := 40 }, { name := "Second", type := 35, offset := 7, embedded := false, tag := "", pkgPath := "", byteOffset := 56 }, { name := "Length", type := 35, offset := 9, embedded := false, tag := "", pkgPath := "", byteOffset := 72 }, { name := "Open", type := 53, offset := 11, embedded := false, tag := "", pkgPath := "", byteOffset := 88 }], size := 15, bytes := 120, zero := [Value.int IntKind.i64 0, Value.int IntKind.i64 0, Value.int IntKind.i64 0, Value.int IntKind.i64 0, Value.int IntKind.i64 0, Value.int IntKind.i64 0, Value.int IntKind.i64 0, Value.int IntKind.i64 0, Value.int IntKind.i64 0, Value.int IntKind.i64 0, Value.int IntKind.i64 0, Value.int IntKind.i64 0, Value.int IntKind.i64 0, Value.int IntKind.i64 0, Value.int IntKind.i64 0], fl := true }
theorem i_54 : TabE Try.prog (54, t_54, true) := ⟨by kernel_rfl, fun _ => by kernel_rfl⟩
def t_55 : TyD := { und := TypeDesc.struct #[{ name := "Shot", type := 47, offset := 0, embedded := false, tag := "", pkgPath := "", byteOffset := 0 }, { name := "First", type := 35, offset := 5, embedded := false, tag := "", pkgPath := "", byteOffset := 40 }, { name := "Second", type := 35, offset := 7, embedded := false, tag := "", pkgPath := "", byteOffset := 56 }, { name := "Length", type := 35, offset := 9, embedded := false, tag := "", pkgPath := "", byteOffset := 72 }, { name := "Open", type := 53, offset := 11, embedded := false, tag := "", pkgPath := "", byteOffset := 88 }], size := 15, bytes := 120, zero := [Value.int IntKind.i64 0, Value.int IntKind.i64 0, Value.int IntKind.i64 0, Value.int IntKind.i64 0, Value.int IntKind.i64 0, Value.int IntKind.i64 0, Value.int IntKind.i64 0, Value.int IntKind.i64 0, Value.int IntKind.i64 0, Value.int IntKind.i64 0, Value.int IntKind.i64 0, Value.int IntKind.i64 0, Value.int IntKind.i64 0, Value.int IntKind.i64 0, Value.int IntKind.i64 0], fl := true }
theorem i_55 : TabE Try.prog (55, t_55, true) := ⟨by kernel_rfl, fun _ => by kernel_rfl⟩
def t_57 : TyD := { und := TypeDesc.func #[44, 47] #[55, 2] false, size := 1, bytes := 8, zero := [Value.nilFunc], fl := false }
theorem i_57 : TabE Try.prog (57, t_57, false) := ⟨by kernel_rfl, fun h => by simp at h⟩
def t_59 : TyD := { und := TypeDesc.func #[53, 35] #[4, 2] false, size := 1, bytes := 8, zero := [Value.nilFunc], fl := false }
theorem i_59 : TabE Try.prog (59, t_59, false) := ⟨by kernel_rfl, fun h => by simp at h⟩
def t_60 : TyD := { und := TypeDesc.struct #[{ name := "Name", type := 9, offset := 0, embedded := false, tag := "", pkgPath := "", byteOffset := 0 }, { name := "Length", type := 35, offset := 1, embedded := false, tag := "", pkgPath := "", byteOffset := 16 }, { name := "Grows", type := 35, offset := 3, embedded := false, tag := "", pkgPath := "", byteOffset := 32 }], size := 5, bytes := 48, zero := [Value.string ⟨#[]⟩, Value.int IntKind.i64 0, Value.int IntKind.i64 0, Value.int IntKind.i64 0, Value.int IntKind.i64 0], fl := true }
theorem i_60 : TabE Try.prog (60, t_60, true) := ⟨by kernel_rfl, fun _ => by kernel_rfl⟩
def t_61 : TyD := { und := TypeDesc.struct #[{ name := "Name", type := 9, offset := 0, embedded := false, tag := "", pkgPath := "", byteOffset := 0 }, { name := "Length", type := 35, offset := 1, embedded := false, tag := "", pkgPath := "", byteOffset := 16 }, { name := "Grows", type := 35, offset := 3, embedded := false, tag := "", pkgPath := "", byteOffset := 32 }], size := 5, bytes := 48, zero := [Value.string ⟨#[]⟩, Value.int IntKind.i64 0, Value.int IntKind.i64 0, Value.int IntKind.i64 0, Value.int IntKind.i64 0], fl := true }
theorem i_61 : TabE Try.prog (61, t_61, true) := ⟨by kernel_rfl, fun _ => by kernel_rfl⟩
def t_62 : TyD := { und := TypeDesc.func #[44, 47] #[4] false, size := 1, bytes := 8, zero := [Value.nilFunc], fl := false }
theorem i_62 : TabE Try.prog (62, t_62, false) := ⟨by kernel_rfl, fun h => by simp at h⟩
def t_63 : TyD := { und := TypeDesc.func #[26, 3] #[3] false, size := 1, bytes := 8, zero := [Value.nilFunc], fl := false }
theorem i_63 : TabE Try.prog (63, t_63, false) := ⟨by kernel_rfl, fun h => by simp at h⟩
def t_64 : TyD := { und := TypeDesc.func #[29, 3] #[3] false, size := 1, bytes := 8, zero := [Value.nilFunc], fl := false }
theorem i_64 : TabE Try.prog (64, t_64, false) := ⟨by kernel_rfl, fun h => by simp at h⟩
def t_65 : TyD := { und := TypeDesc.func #[66, 67] #[35, 35, 2] false, size := 1, bytes := 8, zero := [Value.nilFunc], fl := false }
theorem i_65 : TabE Try.prog (65, t_65, false) := ⟨by kernel_rfl, fun h => by simp at h⟩
def t_66 : TyD := { und := TypeDesc.pointer 44, size := 1, bytes := 8, zero := [Value.pointer none], fl := false }
theorem i_66 : TabE Try.prog (66, t_66, false) := ⟨by kernel_rfl, fun h => by simp at h⟩
def t_67 : TyD := { und := TypeDesc.pointer 47, size := 1, bytes := 8, zero := [Value.pointer none], fl := false }
theorem i_67 : TabE Try.prog (67, t_67, false) := ⟨by kernel_rfl, fun h => by simp at h⟩
def t_68 : TyD := { und := TypeDesc.func #[26] #[40] false, size := 1, bytes := 8, zero := [Value.nilFunc], fl := false }
theorem i_68 : TabE Try.prog (68, t_68, false) := ⟨by kernel_rfl, fun h => by simp at h⟩
def t_69 : TyD := { und := TypeDesc.func #[28] #[41] false, size := 1, bytes := 8, zero := [Value.nilFunc], fl := false }
theorem i_69 : TabE Try.prog (69, t_69, false) := ⟨by kernel_rfl, fun h => by simp at h⟩
def t_70 : TyD := { und := TypeDesc.func #[23] #[35] false, size := 1, bytes := 8, zero := [Value.nilFunc], fl := false }
theorem i_70 : TabE Try.prog (70, t_70, false) := ⟨by kernel_rfl, fun h => by simp at h⟩
def t_71 : TyD := { und := TypeDesc.func #[29] #[42] false, size := 1, bytes := 8, zero := [Value.nilFunc], fl := false }
theorem i_71 : TabE Try.prog (71, t_71, false) := ⟨by kernel_rfl, fun h => by simp at h⟩
def t_72 : TyD := { und := TypeDesc.pointer 74, size := 1, bytes := 8, zero := [Value.pointer none], fl := false }
theorem i_72 : TabE Try.prog (72, t_72, false) := ⟨by kernel_rfl, fun h => by simp at h⟩
def t_73 : TyD := { und := TypeDesc.struct #[{ name := "bad", type := 4, offset := 0, embedded := false, tag := "", pkgPath := "loop.example/g01254/impl", byteOffset := 0 }], size := 1, bytes := 1, zero := [Value.bool false], fl := true }
theorem i_73 : TabE Try.prog (73, t_73, true) := ⟨by kernel_rfl, fun _ => by kernel_rfl⟩
def t_74 : TyD := { und := TypeDesc.struct #[{ name := "bad", type := 4, offset := 0, embedded := false, tag := "", pkgPath := "loop.example/g01254/impl", byteOffset := 0 }], size := 1, bytes := 1, zero := [Value.bool false], fl := true }
theorem i_74 : TabE Try.prog (74, t_74, true) := ⟨by kernel_rfl, fun _ => by kernel_rfl⟩
def t_75 : TyD := { und := TypeDesc.func #[35, 35] #[35] false, size := 1, bytes := 8, zero := [Value.nilFunc], fl := false }
theorem i_75 : TabE Try.prog (75, t_75, false) := ⟨by kernel_rfl, fun h => by simp at h⟩
def t_76 : TyD := { und := TypeDesc.func #[2] #[35] false, size := 1, bytes := 8, zero := [Value.nilFunc], fl := false }
theorem i_76 : TabE Try.prog (76, t_76, false) := ⟨by kernel_rfl, fun h => by simp at h⟩
def t_78 : TyD := { und := TypeDesc.func #[40, 35] #[40, 2] false, size := 1, bytes := 8, zero := [Value.nilFunc], fl := false }
theorem i_78 : TabE Try.prog (78, t_78, false) := ⟨by kernel_rfl, fun h => by simp at h⟩
def t_80 : TyD := { und := TypeDesc.func #[40, 41, 35] #[35, 2] false, size := 1, bytes := 8, zero := [Value.nilFunc], fl := false }
theorem i_80 : TabE Try.prog (80, t_80, false) := ⟨by kernel_rfl, fun h => by simp at h⟩
def t_81 : TyD := { und := TypeDesc.func #[40, 40] #[4] false, size := 1, bytes := 8, zero := [Value.nilFunc], fl := false }
theorem i_81 : TabE Try.prog (81, t_81, false) := ⟨by kernel_rfl, fun h => by simp at h⟩
def t_82 : TyD := { und := TypeDesc.func #[41, 41] #[4] false, size := 1, bytes := 8, zero := [Value.nilFunc], fl := false }
theorem i_82 : TabE Try.prog (82, t_82, false) := ⟨by kernel_rfl, fun h => by simp at h⟩
def t_83 : TyD := { und := TypeDesc.func #[42, 42] #[4] false, size := 1, bytes := 8, zero := [Value.nilFunc], fl := false }
theorem i_83 : TabE Try.prog (83, t_83, false) := ⟨by kernel_rfl, fun h => by simp at h⟩
def t_84 : TyD := { und := TypeDesc.func #[44, 47, 35, 35] #[35, 2] false, size := 1, bytes := 8, zero := [Value.nilFunc], fl := false }
theorem i_84 : TabE Try.prog (84, t_84, false) := ⟨by kernel_rfl, fun h => by simp at h⟩
def t_86 : TyD := { und := TypeDesc.func #[44, 47, 35, 35] #[53, 2] false, size := 1, bytes := 8, zero := [Value.nilFunc], fl := false }
theorem i_86 : TabE Try.prog (86, t_86, false) := ⟨by kernel_rfl, fun h => by simp at h⟩
def t_87 : TyD := { und := TypeDesc.func #[66, 67] #[55, 2] false, size := 1, bytes := 8, zero := [Value.nilFunc], fl := false }
theorem i_87 : TabE Try.prog (87, t_87, false) := ⟨by kernel_rfl, fun h => by simp at h⟩
def t_88 : TyD := { und := TypeDesc.func #[53] #[4] false, size := 1, bytes := 8, zero := [Value.nilFunc], fl := false }
theorem i_88 : TabE Try.prog (88, t_88, false) := ⟨by kernel_rfl, fun h => by simp at h⟩
def t_89 : TyD := { und := TypeDesc.func #[35] #[4] false, size := 1, bytes := 8, zero := [Value.nilFunc], fl := false }
theorem i_89 : TabE Try.prog (89, t_89, false) := ⟨by kernel_rfl, fun h => by simp at h⟩
def t_90 : TyD := { und := TypeDesc.func #[35, 35] #[2] false, size := 1, bytes := 8, zero := [Value.nilFunc], fl := false }
theorem i_90 : TabE Try.prog (90, t_90, false) := ⟨by kernel_rfl, fun h => by simp at h⟩
def t_91 : TyD := { und := TypeDesc.func #[24, 3] #[3] false, size := 1, bytes := 8, zero := [Value.nilFunc], fl := false }
theorem i_91 : TabE Try.prog (91, t_91, false) := ⟨by kernel_rfl, fun h => by simp at h⟩
def t_92 : TyD := { und := TypeDesc.func #[94, 3] #[3] false, size := 1, bytes := 8, zero := [Value.nilFunc], fl := false }
theorem i_92 : TabE Try.prog (92, t_92, false) := ⟨by kernel_rfl, fun h => by simp at h⟩
def t_93 : TyD := { und := TypeDesc.struct #[{ name := "Name", type := 9, offset := 0, embedded := false, tag := "", pkgPath := "", byteOffset := 0 }, { name := "Length", type := 23, offset := 1, embedded := false, tag := "", pkgPath := "", byteOffset := 16 }, { name := "Grows", type := 23, offset := 3, embedded := false, tag := "", pkgPath := "", byteOffset := 32 }], size := 5, bytes := 48, zero := [Value.string ⟨#[]⟩, Value.int IntKind.i64 0, Value.int IntKind.i64 0, Value.int IntKind.i64 0, Value.int IntKind.i64 0], fl := true }
theorem i_93 : TabE Try.prog (93, t_93, true) := ⟨by kernel_rfl, fun _ => by kernel_rfl⟩
def t_94 : TyD := { und := TypeDesc.struct #[{ name := "Name", type := 9, offset := 0, embedded := false, tag := "", pkgPath := "", byteOffset := 0 }, { name := "Length", type := 23, offset := 1, embedded := false, tag := "", pkgPath := "", byteOffset := 16 }, { name := "Grows", type := 23, offset := 3, embedded := false, tag := "", pkgPath := "", byteOffset := 32 }], size := 5, bytes := 48, zero := [Value.string ⟨#[]⟩, Value.int IntKind.i64 0, Value.int IntKind.i64 0, Value.int IntKind.i64 0, Value.int IntKind.i64 0], fl := true }
theorem i_94 : TabE Try.prog (94, t_94, true) := ⟨by kernel_rfl, fun _ => by kernel_rfl⟩
def t_95 : TyD := { und := TypeDesc.func #[66] #[4] false, size := 1, bytes := 8, zero := [Value.nilFunc], fl := false }
theorem i_95 : TabE Try.prog (95, t_95, false) := ⟨by kernel_rfl, fun h => by simp at h⟩
def t_96 : TyD := { und := TypeDesc.func #[66, 67] #[4] false, size := 1, bytes := 8, zero := [Value.nilFunc], fl := false }
theorem i_96 : TabE Try.prog (96, t_96, false) := ⟨by kernel_rfl, fun h => by simp at h⟩
def t_97 : TyD := { und := TypeDesc.func #[35, 35] #[35, 2] false, size := 1, bytes := 8, zero := [Value.nilFunc], fl := false }
theorem i_97 : TabE Try.prog (97, t_97, false) := ⟨by kernel_rfl, fun h => by simp at h⟩
def t_98 : TyD := { und := TypeDesc.array 2 35, size := 4, bytes := 32, zero := [Value.int IntKind.i64 0, Value.int IntKind.i64 0, Value.int IntKind.i64 0, Value.int IntKind.i64 0], fl := true }
theorem i_98 : TabE Try.prog (98, t_98, false) := ⟨by kernel_rfl, fun h => by simp at h⟩
def t_99 : TyD := { und := TypeDesc.func #[100, 101, 35] #[35, 2] false, size := 1, bytes := 8, zero := [Value.nilFunc], fl := false }
theorem i_99 : TabE Try.prog (99, t_99, false) := ⟨by kernel_rfl, fun h => by simp at h⟩
def t_100 : TyD := { und := TypeDesc.pointer 40, size := 1, bytes := 8, zero := [Value.pointer none], fl := false }
theorem i_100 : TabE Try.prog (100, t_100, false) := ⟨by kernel_rfl, fun h => by simp at h⟩
def t_101 : TyD := { und := TypeDesc.pointer 41, size := 1, bytes := 8, zero := [Value.pointer none], fl := false }
theorem i_101 : TabE Try.prog (101, t_101, false) := ⟨by kernel_rfl, fun h => by simp at h⟩
def t_102 : TyD := { und := TypeDesc.func #[24] #[38] false, size := 1, bytes := 8, zero := [Value.nilFunc], fl := false }
theorem i_102 : TabE Try.prog (102, t_102, false) := ⟨by kernel_rfl, fun h => by simp at h⟩
def t_103 : TyD := { und := TypeDesc.func #[94] #[61] false, size := 1, bytes := 8, zero := [Value.nilFunc], fl := false }
theorem i_103 : TabE Try.prog (103, t_103, false) := ⟨by kernel_rfl, fun h => by simp at h⟩
def t_104 : TyD := { und := TypeDesc.func #[2, 2] #[35] false, size := 1, bytes := 8, zero := [Value.nilFunc], fl := false }
theorem i_104 : TabE Try.prog (104, t_104, false) := ⟨by kernel_rfl, fun h => by simp at h⟩
def t_105 : TyD := { und := TypeDesc.func #[40] #[4] false, size := 1, bytes := 8, zero := [Value.nilFunc], fl := false }
theorem i_105 : TabE Try.prog (105, t_105, false) := ⟨by kernel_rfl, fun h => by simp at h⟩
def t_106 : TyD := { und := TypeDesc.func #[35] #[35] false, size := 1, bytes := 8, zero := [Value.nilFunc], fl := false }
theorem i_106 : TabE Try.prog (106, t_106, false) := ⟨by kernel_rfl, fun h => by simp at h⟩
def t_108 : TyD := { und := TypeDesc.func #[40, 41, 35] #[2, 2] false, size := 1, bytes := 8, zero := [Value.nilFunc], fl := false }
theorem i_108 : TabE Try.prog (108, t_108, false) := ⟨by kernel_rfl, fun h => by simp at h⟩
def t_110 : TyD := { und := TypeDesc.func #[2, 2] #[2, 4] false, size := 1, bytes := 8, zero := [Value.nilFunc], fl := false }
theorem i_110 : TabE Try.prog (110, t_110, false) := ⟨by kernel_rfl, fun h => by simp at h⟩
def t_111 : TyD := { und := TypeDesc.func #[35] #[35, 2] false, size := 1, bytes := 8, zero := [Value.nilFunc], fl := false }
theorem i_111 : TabE Try.prog (111, t_111, false) := ⟨by kernel_rfl, fun h => by simp at h⟩
def t_112 : TyD := { und := TypeDesc.func #[] #[35] false, size := 1, bytes := 8, zero := [Value.nilFunc], fl := false }
theorem i_112 : TabE Try.prog (112, t_112, false) := ⟨by kernel_rfl, fun h => by simp at h⟩
def t_113 : TyD := { und := TypeDesc.func #[38, 38] #[4] false, size := 1, bytes := 8, zero := [Value.nilFunc], fl := false }
theorem i_113 : TabE Try.prog (113, t_113, false) := ⟨by kernel_rfl, fun h => by simp at h⟩
def t_114 : TyD := { und := TypeDesc.func #[61, 61] #[4] false, size := 1, bytes := 8, zero := [Value.nilFunc], fl := false }
theorem i_114 : TabE Try.prog (114, t_114, false) := ⟨by kernel_rfl, fun h => by simp at h⟩
def t_115 : TyD := { und := TypeDesc.func #[44, 47, 35, 35] #[2] false, size := 1, bytes := 8, zero := [Value.nilFunc], fl := false }
theorem i_115 : TabE Try.prog (115, t_115, false) := ⟨by kernel_rfl, fun h => by simp at h⟩
def t_116 : TyD := { und := TypeDesc.func #[44, 47, 35] #[35] false, size := 1, bytes := 8, zero := [Value.nilFunc], fl := false }
theorem i_116 : TabE Try.prog (116, t_116, false) := ⟨by kernel_rfl, fun h => by simp at h⟩
def t_117 : TyD := { und := TypeDesc.func #[40, 41] #[35] false, size := 1, bytes := 8, zero := [Value.nilFunc], fl := false }
theorem i_117 : TabE Try.prog (117, t_117, false) := ⟨by kernel_rfl, fun h => by simp at h⟩
def t_118 : TyD := { und := TypeDesc.func #[53] #[53, 2] false, size := 1, bytes := 8, zero := [Value.nilFunc], fl := false }
theorem i_118 : TabE Try.prog (118, t_118, false) := ⟨by kernel_rfl, fun h => by simp at h⟩
def t_119 : TyD := { und := TypeDesc.func #[66, 67, 35, 35] #[35, 2] false, size := 1, bytes := 8, zero := [Value.nilFunc], fl := false }
theorem i_119 : TabE Try.prog (119, t_119, false) := ⟨by kernel_rfl, fun h => by simp at h⟩
def t_120 : TyD := { und := TypeDesc.func #[66, 67, 35, 35] #[53, 2] false, size := 1, bytes := 8, zero := [Value.nilFunc], fl := false }
theorem i_120 : TabE Try.prog (120, t_120, false) := ⟨by kernel_rfl, fun h => by simp at h⟩
def t_121 : TyD := { und := TypeDesc.func #[38] #[4] true, size := 1, bytes := 8, zero := [Value.nilFunc], fl := false }
theorem i_121 : TabE Try.prog (121, t_121, false) := ⟨by kernel_rfl, fun h => by simp at h⟩
def t_122 : TyD := { und := TypeDesc.func #[2, 2, 2] #[4] false, size := 1, bytes := 8, zero := [Value.nilFunc], fl := false }
theorem i_122 : TabE Try.prog (122, t_122, false) := ⟨by kernel_rfl, fun h => by simp at h⟩
def t_123 : TyD := { und := TypeDesc.func #[2, 2] #[2] false, size := 1, bytes := 8, zero := [Value.nilFunc], fl := false }
theorem i_123 : TabE Try.prog (123, t_123, false) := ⟨by kernel_rfl, fun h => by simp at h⟩
def t_124 : TyD := { und := TypeDesc.func #[100] #[4] false, size := 1, bytes := 8, zero := [Value.nilFunc], fl := false }
theorem i_124 : TabE Try.prog (124, t_124, false) := ⟨by kernel_rfl, fun h => by simp at h⟩
def t_125 : TyD := { und := TypeDesc.func #[101] #[4] false, size := 1, bytes := 8, zero := [Value.nilFunc], fl := false }
theorem i_125 : TabE Try.prog (125, t_125, false) := ⟨by kernel_rfl, fun h => by simp at h⟩
def t_126 : TyD := { und := TypeDesc.pointer 61, size := 1, bytes := 8, zero := [Value.pointer none], fl := false }
theorem i_126 : TabE Try.prog (126, t_126, false) := ⟨by kernel_rfl, fun h => by simp at h⟩
def t_127 : TyD := { und := TypeDesc.func #[9] #[4] false, size := 1, bytes := 8, zero := [Value.nilFunc], fl := false }
theorem i_127 : TabE Try.prog (127, t_127, false) := ⟨by kernel_rfl, fun h => by simp at h⟩
def t_128 : TyD := { und := TypeDesc.func #[35, 2] #[4] false, size := 1, bytes := 8, zero := [Value.nilFunc], fl := false }
theorem i_128 : TabE Try.prog (128, t_128, false) := ⟨by kernel_rfl, fun h => by simp at h⟩
def t_129 : TyD := { und := TypeDesc.func #[2] #[2] false, size := 1, bytes := 8, zero := [Value.nilFunc], fl := false }
theorem i_129 : TabE Try.prog (129, t_129, false) := ⟨by kernel_rfl, fun h => by simp at h⟩
def t_130 : TyD := { und := TypeDesc.func #[100, 101, 35] #[2, 2] false, size := 1, bytes := 8, zero := [Value.nilFunc], fl := false }
theorem i_130 : TabE Try.prog (130, t_130, false) := ⟨by kernel_rfl, fun h => by simp at h⟩
def t_131 : TyD := { und := TypeDesc.func #[2] #[2, 2] false, size := 1, bytes := 8, zero := [Value.nilFunc], fl := false }
theorem i_131 : TabE Try.prog (131, t_131, false) := ⟨by kernel_rfl, fun h => by simp at h⟩
def t_132 : TyD := { und := TypeDesc.func #[2, 2] #[35, 2] false, size := 1, bytes := 8, zero := [Value.nilFunc], fl := false }
theorem i_132 : TabE Try.prog (132, t_132, false) := ⟨by kernel_rfl, fun h => by simp at h⟩
def t_133 : TyD := { und := TypeDesc.func #[44] #[4] false, size := 1, bytes := 8, zero := [Value.nilFunc], fl := false }
theorem i_133 : TabE Try.prog (133, t_133, false) := ⟨by kernel_rfl, fun h => by simp at h⟩
def t_134 : TyD := { und := TypeDesc.func #[44, 2] #[4] false, size := 1, bytes := 8, zero := [Value.nilFunc], fl := false }
theorem i_134 : TabE Try.prog (134, t_134, false) := ⟨by kernel_rfl, fun h => by simp at h⟩
def t_136 : TyD := { und := TypeDesc.func #[2, 2] #[35, 4] false, size := 1, bytes := 8, zero := [Value.nilFunc], fl := false }
theorem i_136 : TabE Try.prog (136, t_136, false) := ⟨by kernel_rfl, fun h => by simp at h⟩
def t_137 : TyD := { und := TypeDesc.func #[40, 41, 35, 2] #[2] false, size := 1, bytes := 8, zero := [Value.nilFunc], fl := false }
theorem i_137 : TabE Try.prog (137, t_137, false) := ⟨by kernel_rfl, fun h => by simp at h⟩
def t_138 : TyD := { und := TypeDesc.func #[40, 3] #[35] false, size := 1, bytes := 8, zero := [Value.nilFunc], fl := false }
theorem i_138 : TabE Try.prog (138, t_138, false) := ⟨by kernel_rfl, fun h => by simp at h⟩
def t_139 : TyD := { und := TypeDesc.func #[40, 41, 35, 2] #[35] false, size := 1, bytes := 8, zero := [Value.nilFunc], fl := false }
theorem i_139 : TabE Try.prog (139, t_139, false) := ⟨by kernel_rfl, fun h => by simp at h⟩
def t_141 : TyD := { und := TypeDesc.func #[40, 35] #[2, 35] false, size := 1, bytes := 8, zero := [Value.nilFunc], fl := false }
theorem i_141 : TabE Try.prog (141, t_141, false) := ⟨by kernel_rfl, fun h => by simp at h⟩
def t_142 : TyD := { und := TypeDesc.func #[40] #[35] false, size := 1, bytes := 8, zero := [Value.nilFunc], fl := false }
theorem i_142 : TabE Try.prog (142, t_142, false) := ⟨by kernel_rfl, fun h => by simp at h⟩
def t_143 : TyD := { und := TypeDesc.func #[66, 67, 35] #[35, 2] false, size := 1, bytes := 8, zero := [Value.nilFunc], fl := false }
theorem i_143 : TabE Try.prog (143, t_143, false) := ⟨by kernel_rfl, fun h => by simp at h⟩
def t_144 : TyD := { und := TypeDesc.func #[100, 101] #[35, 2] false, size := 1, bytes := 8, zero := [Value.nilFunc], fl := false }
theorem i_144 : TabE Try.prog (144, t_144, false) := ⟨by kernel_rfl, fun h => by simp at h⟩
def t_145 : TyD := { und := TypeDesc.func #[35, 35] #[53, 2] false, size := 1, bytes := 8, zero := [Value.nilFunc], fl := false }
theorem i_145 : TabE Try.prog (145, t_145, false) := ⟨by kernel_rfl, fun h => by simp at h⟩
def t_146 : TyD := { und := TypeDesc.func #[35, 2, 35, 2] #[53, 2] false, size := 1, bytes := 8, zero := [Value.nilFunc], fl := false }
theorem i_146 : TabE Try.prog (146, t_146, false) := ⟨by kernel_rfl, fun h => by simp at h⟩
def t_147 : TyD := { und := TypeDesc.func #[38, 89] #[4] false, size := 1, bytes := 8, zero := [Value.nilFunc], fl := false }
theorem i_147 : TabE Try.prog (147, t_147, false) := ⟨by kernel_rfl, fun h => by simp at h⟩
def t_148 : TyD := { und := TypeDesc.func #[100, 2] #[35, 2] false, size := 1, bytes := 8, zero := [Value.nilFunc], fl := false }
theorem i_148 : TabE Try.prog (148, t_148, false) := ⟨by kernel_rfl, fun h => by simp at h⟩
def t_149 : TyD := { und := TypeDesc.func #[100, 101, 35, 2] #[35, 2] false, size := 1, bytes := 8, zero := [Value.nilFunc], fl := false }
theorem i_149 : TabE Try.prog (149, t_149, false) := ⟨by kernel_rfl, fun h => by simp at h⟩
def t_150 : TyD := { und := TypeDesc.func #[42, 151] #[4] false, size := 1, bytes := 8, zero := [Value.nilFunc], fl := false }
theorem i_150 : TabE Try.prog (150, t_150, false) := ⟨by kernel_rfl, fun h => by simp at h⟩
def t_151 : TyD := { und := TypeDesc.func #[61] #[4] false, size := 1, bytes := 8, zero := [Value.nilFunc], fl := false }
theorem i_151 : TabE Try.prog (151, t_151, false) := ⟨by kernel_rfl, fun h => by simp at h⟩
def t_152 : TyD := { und := TypeDesc.func #[41] #[4] false, size := 1, bytes := 8, zero := [Value.nilFunc], fl := false }
theorem i_152 : TabE Try.prog (152, t_152, false) := ⟨by kernel_rfl, fun h => by simp at h⟩
def t_153 : TyD := { und := TypeDesc.func #[100] #[35] false, size := 1, bytes := 8, zero := [Value.nilFunc], fl := false }
theorem i_153 : TabE Try.prog (153, t_153, false) := ⟨by kernel_rfl, fun h => by simp at h⟩
def t_154 : TyD := { und := TypeDesc.func #[38, 89] #[3] false, size := 1, bytes := 8, zero := [Value.nilFunc], fl := false }
theorem i_154 : TabE Try.prog (154, t_154, false) := ⟨by kernel_rfl, fun h => by simp at h⟩
def t_156 : TyD := { und := TypeDesc.func #[100, 35] #[2, 35, 2] false, size := 1, bytes := 8, zero := [Value.nilFunc], fl := false }
theorem i_156 : TabE Try.prog (156, t_156, false) := ⟨by kernel_rfl, fun h => by simp at h⟩
def t_157 : TyD := { und := TypeDesc.func #[42, 151] #[3] false, size := 1, bytes := 8, zero := [Value.nilFunc], fl := false }
theorem i_157 : TabE Try.prog (157, t_157, false) := ⟨by kernel_rfl, fun h => by simp at h⟩
def t_158 : TyD := { und := TypeDesc.func #[] #[9] false, size := 1, bytes := 8, zero := [Value.nilFunc], fl := false }
theorem i_158 : TabE Try.prog (158, t_158, false) := ⟨by kernel_rfl, fun h => by simp at h⟩
def t_159 : TyD := { und := TypeDesc.struct #[{ name := "_interface", type := 17, offset := 0, embedded := false, tag := "", pkgPath := "runtime", byteOffset := 0 }, { name := "concrete", type := 17, offset := 1, embedded := false, tag := "", pkgPath := "runtime", byteOffset := 8 }, { name := "asserted", type := 17, offset := 2, embedded := false, tag := "", pkgPath := "runtime", byteOffset := 16 }, { name := "missingMethod", type := 9, offset := 3, embedded := false, tag := "", pkgPath := "runtime", byteOffset := 24 }], size := 4, bytes := 40, zero := [Value.pointer none, Value.pointer none, Value.pointer none, Value.string ⟨#[]⟩], fl := false }
theorem i_159 : TabE Try.prog (159, t_159, false) := ⟨by kernel_rfl, fun h => by simp at h⟩
def t_160 : TyD := { und := TypeDesc.struct #[{ name := "_interface", type := 17, offset := 0, embedded := false, tag := "", pkgPath := "runtime", byteOffset := 0 }, { name := "concrete", type := 17, offset := 1, embedded := false, tag := "", pkgPath := "runtime", byteOffset := 8 }, { name := "asserted", type := 17, offset := 2, embedded := false, tag := "", pkgPath := "runtime", byteOffset := 16 }, { name := "missingMethod", type := 9, offset := 3, embedded := false, tag := "", pkgPath := "runtime", byteOffset := 24 }], size := 4, bytes := 40, zero := [Value.pointer none, Value.pointer none, Value.pointer none, Value.string ⟨#[]⟩], fl := false }
theorem i_160 : TabE Try.prog (160, t_160, false) := ⟨by kernel_rfl, fun h => by simp at h⟩
def t_161 : TyD := { und := TypeDesc.array 0 16, size := 0, bytes := 0, zero := [], fl := false }
theorem i_161 : TabE Try.prog (161, t_161, false) := ⟨by kernel_rfl, fun h => by simp at h⟩
def t_162 : TyD := { und := TypeDesc.struct #[{ name := "_", type := 161, offset := 0, embedded := false, tag := "", pkgPath := "runtime", byteOffset := 0 }], size := 0, bytes := 0, zero := [], fl := false }
theorem i_162 : TabE Try.prog (162, t_162, false) := ⟨by kernel_rfl, fun h => by simp at h⟩
def t_163 : TyD := { und := TypeDesc.struct #[{ name := "_", type := 161, offset := 0, embedded := false, tag := "", pkgPath := "runtime", byteOffset := 0 }], size := 0, bytes := 0, zero := [], fl := false }
theorem i_163 : TabE Try.prog (163, t_163, false) := ⟨by kernel_rfl, fun h => by simp at h⟩
def t_164 : TyD := { und := TypeDesc.func #[] #[3] false, size := 1, bytes := 8, zero := [Value.nilFunc], fl := false }
theorem i_164 : TabE Try.prog (164, t_164, false) := ⟨by kernel_rfl, fun h => by simp at h⟩
def t_165 : TyD := { und := TypeDesc.int IntKind.u32, size := 1, bytes := 4, zero := [Value.int IntKind.u32 0], fl := true }
theorem i_165 : TabE Try.prog (165, t_165, false) := ⟨by kernel_rfl, fun h => by simp at h⟩
def t_166 : TyD := { und := TypeDesc.int IntKind.u8, size := 1, bytes := 1, zero := [Value.int IntKind.u8 0], fl := true }
theorem i_166 : TabE Try.prog (166, t_166, false) := ⟨by kernel_rfl, fun h => by simp at h⟩
def t_167 : TyD := { und := TypeDesc.int IntKind.u8, size := 1, bytes := 1, zero := [Value.int IntKind.u8 0], fl := true }
theorem i_167 : TabE Try.prog (167, t_167, false) := ⟨by kernel_rfl, fun h => by simp at h⟩
def t_168 : TyD := { und := TypeDesc.func #[175, 175] #[4] false, size := 1, bytes := 8, zero := [Value.nilFunc], fl := false }
theorem i_168 : TabE Try.prog (168, t_168, false) := ⟨by kernel_rfl, fun h => by simp at h⟩
def t_169 : TyD := { und := TypeDesc.pointer 5, size := 1, bytes := 8, zero := [Value.pointer none], fl := false }
theorem i_169 : TabE Try.prog (169, t_169, false) := ⟨by kernel_rfl, fun h => by simp at h⟩
def t_170 : TyD := { und := TypeDesc.int IntKind.i32, size := 1, bytes := 4, zero := [Value.int IntKind.i32 0], fl := true }
theorem i_170 : TabE Try.prog (170, t_170, false) := ⟨by kernel_rfl, fun h => by simp at h⟩
def t_171 : TyD := { und := TypeDesc.int IntKind.i32, size := 1, bytes := 4, zero := [Value.int IntKind.i32 0], fl := true }
theorem i_171 : TabE Try.prog (171, t_171, false) := ⟨by kernel_rfl, fun h => by simp at h⟩
def t_172 : TyD := { und := TypeDesc.struct #[{ name := "Size_", type := 12, offset := 0, embedded := false, tag := "", pkgPath := "", byteOffset := 0 }, { name := "PtrBytes", type := 12, offset := 1, embedded := false, tag := "", pkgPath := "", byteOffset := 8 }, { name := "Hash", type := 165, offset := 2, embedded := false, tag := "", pkgPath := "", byteOffset := 16 }, { name := "TFlag", type := 166, offset := 3, embedded := false, tag := "", pkgPath := "", byteOffset := 20 }, { name := "Align_", type := 5, offset := 4, embedded := false, tag := "", pkgPath := "", byteOffset := 21 }, { name := "FieldAlign_", type := 5, offset := 5, embedded := false, tag := "", pkgPath := "", byteOffset := 22 }, { name := "Kind_", type := 167, offset := 6, embedded := false, tag := "", pkgPath := "", byteOffset := 23 }, { name := "Equal", type := 168, offset := 7, embedded := false, tag := "", pkgPath := "", byteOffset := 24 }, { name := "GCData", type := 169, offset := 8, embedded := false, tag := "", pkgPath := "", byteOffset := 32 }, { name := "Str", type := 170, offset := 9, embedded := false, tag := "", pkgPath := "", byteOffset := 40 }, { name := "PtrToThis", type := 171, offset := 10, embedded := false, tag := "", pkgPath := "", byteOffset := 44 }], size := 11, bytes := 48, zero := [Value.int IntKind.u64 0, Value.int IntKind.u64 0, Value.int IntKind.u32 0, Value.int IntKind.u8 0, Value.int IntKind.u8 0, Value.int IntKind.u8 0, Value.int IntKind.u8 0, Value.nilFunc, Value.pointer none, Value.int IntKind.i32 0, Value.int IntKind.i32 0], fl := false }
theorem i_172 : TabE Try.prog (172, t_172, false) := ⟨by kernel_rfl, fun h => by simp at h⟩
def t_173 : TyD := { und := TypeDesc.struct #[{ name := "Size_", type := 12, offset := 0, embedded := false, tag := "", pkgPath := "", byteOffset := 0 }, { name := "PtrBytes", type := 12, offset := 1, embedded := false, tag := "", pkgPath := "", byteOffset := 8 }, { name := "Hash", type := 165, offset := 2, embedded := false, tag := "", pkgPath := "", byteOffset := 16 }, { name := "TFlag", type := 166, offset := 3, embedded := false, tag := "", pkgPath := "", byteOffset := 20 }, { name := "Align_", type := 5, offset := 4, embedded := false, tag := "", pkgPath := "", byteOffset := 21 }, { name := "FieldAlign_", type := 5, offset := 5, embedded := false, tag := "", pkgPath := "", byteOffset := 22 }, { name := "Kind_", type := 167, offset := 6, embedded := false, tag := "", pkgPath := "", byteOffset := 23 }, { name := "Equal", type := 168, offset := 7, embedded := false, tag := "", pkgPath := "", byteOffset := 24 }, { name := "GCData", type := 169, offset := 8, embedded := false, tag := "", pkgPath := "", byteOffset := 32 }, { name := "Str", type := 170, offset := 9, embedded := false, tag := "", pkgPath := "", byteOffset := 40 }, { name := "PtrToThis", type := 171, offset := 10, embedded := false, tag := "", pkgPath := "", byteOffset := 44 }], size := 11, bytes := 48, zero := [Value.int IntKind.u64 0, Value.int IntKind.u64 0, Value.int IntKind.u32 0, Value.int IntKind.u8 0, Value.int IntKind.u8 0, Value.int IntKind.u8 0, Value.int IntKind.u8 0, Value.nilFunc, Value.pointer none, Value.int IntKind.i32 0, Value.int IntKind.i32 0], fl := false }
theorem i_173 : TabE Try.prog (173, t_173, false) := ⟨by kernel_rfl, fun h => by simp at h⟩
def t_174 : TyD := { und := TypeDesc.func #[] #[2] false, size := 1, bytes := 8, zero := [Value.nilFunc], fl := false }
theorem i_174 : TabE Try.prog (174, t_174, false) := ⟨by kernel_rfl, fun h => by simp at h⟩
def t_175 : TyD := { und := TypeDesc.unsafePointer, size := 1, bytes := 8, zero := [Value.pointer none], fl := false }
theorem i_175 : TabE Try.prog (175, t_175, false) := ⟨by kernel_rfl, fun h => by simp at h⟩
def tyTab : List (Nat × TyD × Bool) := [(1, t_1, false), (2, t_2, false), (3, t_3, false), (4, t_4, false), (5, t_5, false), (6, t_6, false), (7, t_7, true), (8, t_8, true), (9, t_9, false), (10, t_10, false), (11, t_11, false), (12, t_12, false), (13, t_13, false), (14, t_14, false), (15, t_15, false), (16, t_16, false), (17, t_17, false), (18, t_18, false), (19, t_19, false), (21, t_21, false), (22, t_22, true), (23, t_23, true), (24, t_24, false), (25, t_25, true), (26, t_26, true), (27, t_27, true), (28, t_28, true), (29, t_29, false), (30, t_30, true), (31, t_31, true), (32, t_32, true), (33, t_33, true), (34, t_34, false), (35, t_35, true), (37, t_37, false), (38, t_38, false), (39, t_39, true), (40, t_40, true), (41, t_41, true), (42, t_42, false), (43, t_43, true), (44, t_44, true), (45, t_45, false), (46, t_46, true), (47, t_47, true), (48, t_48, false), (49, t_49, false), (50, t_50, false), (51, t_51, false), (52, t_52, true), (53, t_53, true), (54, t_54, true), (55, t_55, true), (57, t_57, false), (59, t_59, false), (60, t_60, true), (61, t_61, true), (62, t_62, false), (63, t_63, false), (64, t_64, false), (65, t_65, false), (66, t_66, false), (67, t_67, false), (68, t_68, false), (69, t_69, false), (70, t_70, false), (71, t_71, false), (72, t_72, false), (73, t_73, true), (74, t_74, true), (75, t_75, false), (76, t_76, false), (78, t_78, false), (80, t_80, false), (81, t_81, false), (82, t_82, false), (83, t_83, false), (84, t_84, false), (86, t_86, false), (87, t_87, false), (88, t_88, false), (89, t_89, false), (90, t_90, false), (91, t_91, false), (92, t_92, false), (93, t_93, true), (94, t_94, true), (95, t_95, false), (96, t_96, false), (97, t_97, false), (98, t_98, false), (99, t_99, false), (100, t_100, false), (101, t_101, false), (102, t_102, false), (103, t_103, false), (104, t_104, false), (105, t_105, false), (106, t_106, false), (108, t_108, false), (110, t_110, false), (111, t_111, false), (112, t_112, false), (113, t_113, false), (114, t_114, false), (115, t_115, false), (116, t_116, false), (117, t_117, false), (118, t_118, false), (119, t_119, false), (120, t_120, false), (121, t_121, false), (122, t_122, false), (123, t_123, false), (124, t_124, false), (125, t_125, false), (126, t_126, false), (127, t_127, false), (128, t_128, false), (129, t_129, false), (130, t_130, false), (131, t_131, false), (132, t_132, false), (133, t_133, false), (134, t_134, false), (136, t_136, false), (137, t_137, false), (138, t_138, false), (139, t_139, false), (141, t_141, false), (142, t_142, false), (143, t_143, false), (144, t_144, false), (145, t_145, false), (146, t_146, false), (147, t_147, false), (148, t_148, false), (149, t_149, false), (150, t_150, false), (151, t_151, false), (152, t_152, false), (153, t_153, false), (154, t_154, false), (156, t_156, false), (157, t_157, false), (158, t_158, false), (159, t_159, false), (160, t_160, false), (161, t_161, false), (162, t_162, false), (163, t_163, false), (164, t_164, false), (165, t_165, false), (166, t_166, false), (167, t_167, false), (168, t_168, false), (169, t_169, false), (170, t_170, false), (171, t_171, false), (172, t_172, false), (173, t_173, false), (174, t_174, false), (175, t_175, false)]
@[reducible] def T0 : Ty := lookT tyTab
@[reducible] def Q0 : Nat → Bool := lookQ tyTab
theorem tabOk : TabOk Try.prog T0 Q0 := tab_ok (l := tyTab) (⟨i_1, i_2, i_3, i_4, i_5, i_6, i_7, i_8, i_9, i_10, i_11, i_12, i_13, i_14, i_15, i_16, i_17, i_18, i_19, i_21, i_22, i_23, i_24, i_25, i_26, i_27, i_28, i_29, i_30, i_31, i_32, i_33, i_34, i_35, i_37, i_38, i_39, i_40, i_41, i_42, i_43, i_44, i_45, i_46, i_47, i_48, i_49, i_50, i_51, i_52, i_53, i_54, i_55, i_57, i_59, i_60, i_61, i_62, i_63, i_64, i_65, i_66, i_67, i_68, i_69, i_70, i_71, i_72, i_73, i_74, i_75, i_76, i_78, i_80, i_81, i_82, i_83, i_84, i_86, i_87, i_88, i_89, i_90, i_91, i_92, i_93, i_94, i_95, i_96, i_97, i_98, i_99, i_100, i_101, i_102, i_103, i_104, i_105, i_106, i_108, i_110, i_111, i_112, i_113, i_114, i_115, i_116, i_117, i_118, i_119, i_120, i_121, i_122, i_123, i_124, i_125, i_126, i_127, i_128, i_129, i_130, i_131, i_132, i_133, i_134, i_136, i_137, i_138, i_139, i_141, i_142, i_143, i_144, i_145, i_146, i_147, i_148, i_149, i_150, i_151, i_152, i_153, i_154, i_156, i_157, i_158, i_159, i_160, i_161, i_162, i_163, i_164, i_165, i_166, i_167, i_168, i_169, i_170, i_171, i_172, i_173, i_174, i_175, trivial⟩)
end Go.Proofs.Ytbmejhabgoimeaa.Eng
