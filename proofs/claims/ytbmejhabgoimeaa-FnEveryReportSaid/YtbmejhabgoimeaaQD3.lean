/- Lemmas for the proof, no conditions of their own. -/
import Derived.Test.YtbmejhabgoimeaaQD2
import Derived.Test.YtbmejhabgoimeaaProg
import Derived.KernelRfl
set_option linter.unusedVariables false
set_option linter.unusedSimpArgs false
set_option maxRecDepth 100000
namespace Go.Proofs.Ytbmejhabgoimeaa.Eng
open Go Go.RowKit
def t_1 : TyD := { und := TypeDesc.func #[] #[] false, size := 1, bytes := 8, zero := [Value.nilFunc], fl := false }
theorem i_1 : TabE Try.prog (1, t_1, false) := ⟨by kernel_rfl, fun h => by simp at h⟩
def t_2 : TyD := { und := TypeDesc.int IntKind.i64, size := 1, bytes := 8, zero := [Value.int IntKind.i64 0], fl := true }
theorem i_2 : TabE Try.prog (2, t_2, false) := ⟨by kernel_rfl, fun h => by simp at h⟩
def t_3 : TyD := { und := TypeDesc.int IntKind.i64, size := 1, bytes := 8, zero := [Value.int IntKind.i64 0], fl := true }
theorem i_3 : TabE Try.prog (3, t_3, false) := ⟨by kernel_rfl, fun h => by simp at h⟩
def t_4 : TyD := { und := TypeDesc.bool, size := 1, bytes := 1, zero := [Value.bool false], fl := true }
theorem i_4 : TabE Try.prog (4, t_4, false) := ⟨by kernel_rfl, fun h => by simp at h⟩
def t_5 : TyD := { und := TypeDesc.int IntKind.u8, size := 1, bytes := 1, zero := [Value.int IntKind.u8 0], fl := true }
theorem i_5 : TabE Try.prog (5, t_5, false) := ⟨by kernel_rfl, fun h => by simp at h⟩
def t_6 : TyD := { und := TypeDesc.int IntKind.u8, size := 1, bytes := 1, zero := [Value.int IntKind.u8 0], fl := true }
theorem i_6 : TabE Try.prog (6, t_6, false) := ⟨by kernel_rfl, fun h => by simp at h⟩
def t_7 : TyD := { und := TypeDesc.struct #[{ name := "x", type := 2, offset := 0, embedded := false, tag := "", pkgPath := "runtime", byteOffset := 0 }, { name := "y", type := 3, offset := 1, embedded := false, tag := "", pkgPath := "runtime", byteOffset := 8 }, { name := "signed", type := 4, offset := 2, embedded := false, tag := "", pkgPath := "runtime", byteOffset := 16 }, { name := "code", type := 6, offset := 3, embedded := false, tag := "", pkgPath := "runtime", byteOffset := 17 }], size := 4, bytes := 24, zero := [Value.int IntKind.i64 0, Value.int IntKind.i64 0, Value.bool false, Value.int IntKind.u8 0], fl := true }
theorem i_7 : TabE Try.prog (7, t_7, true) := ⟨by kernel_rfl, fun _ => by kernel_rfl⟩
def t_8 : TyD := { und := TypeDesc.struct #[{ name := "x", type := 2, offset := 0, embedded := false, tag := "", pkgPath := "runtime", byteOffset := 0 }, { name := "y", type := 3, offset := 1, embedded := false, tag := "", pkgPath := "runtime", byteOffset := 8 }, { name := "signed", type := 4, offset := 2, embedded := false, tag := "", pkgPath := "runtime", byteOffset := 16 }, { name := "code", type := 6, offset := 3, embedded := false, tag := "", pkgPath := "runtime", byteOffset := 17 }], size := 4, bytes := 24, zero := [Value.int IntKind.i64 0, Value.int IntKind.i64 0, Value.bool false, Value.int IntKind.u8 0], fl := true }
theorem i_8 : TabE Try.prog (8, t_8, true) := ⟨by kernel_rfl, fun _ => by kernel_rfl⟩
def t_9 : TyD := { und := TypeDesc.string, size := 1, bytes := 16, zero := [Value.string ⟨#[]⟩], fl := true }
theorem i_9 : TabE Try.prog (9, t_9, false) := ⟨by kernel_rfl, fun h => by simp at h⟩
def t_10 : TyD := { und := TypeDesc.string, size := 1, bytes := 16, zero := [Value.string ⟨#[]⟩], fl := true }
theorem i_10 : TabE Try.prog (10, t_10, false) := ⟨by kernel_rfl, fun h => by simp at h⟩
def t_11 : TyD := { und := TypeDesc.string, size := 1, bytes := 16, zero := [Value.string ⟨#[]⟩], fl := true }
theorem i_11 : TabE Try.prog (11, t_11, false) := ⟨by kernel_rfl, fun h => by simp at h⟩
def t_12 : TyD := { und := TypeDesc.int IntKind.u64, size := 1, bytes := 8, zero := [Value.int IntKind.u64 0], fl := true }
theorem i_12 : TabE Try.prog (12, t_12, false) := ⟨by kernel_rfl, fun h => by simp at h⟩
def t_13 : TyD := { und := TypeDesc.struct #[{ name := "msg", type := 9, offset := 0, embedded := false, tag := "", pkgPath := "runtime", byteOffset := 0 }, { name := "addr", type := 12, offset := 1, embedded := false, tag := "", pkgPath := "runtime", byteOffset := 16 }], size := 2, bytes := 24, zero := [Value.string ⟨#[]⟩, Value.int IntKind.u64 0], fl := true }
theorem i_13 : TabE Try.prog (13, t_13, false) := ⟨by kernel_rfl, fun h => by simp at h⟩
def t_14 : TyD := { und := TypeDesc.struct #[{ name := "msg", type := 9, offset := 0, embedded := false, tag := "", pkgPath := "runtime", byteOffset := 0 }, { name := "addr", type := 12, offset := 1, embedded := false, tag := "", pkgPath := "runtime", byteOffset := 16 }], size := 2, bytes := 24, zero := [Value.string ⟨#[]⟩, Value.int IntKind.u64 0], fl := true }
theorem i_14 : TabE Try.prog (14, t_14, false) := ⟨by kernel_rfl, fun h => by simp at h⟩
def t_15 : TyD := { und := TypeDesc.pointer 160, size := 1, bytes := 8, zero := [Value.pointer none], fl := false }
theorem i_15 : TabE Try.prog (15, t_15, false) := ⟨by kernel_rfl, fun h => by simp at h⟩
def t_16 : TyD := { und := TypeDesc.pointer 163, size := 1, bytes := 8, zero := [Value.pointer none], fl := false }
theorem i_16 : TabE Try.prog (16, t_16, false) := ⟨by kernel_rfl, fun h => by simp at h⟩
def t_17 : TyD := { und := TypeDesc.pointer 173, size := 1, bytes := 8, zero := [Value.pointer none], fl := false }
theorem i_17 : TabE Try.prog (17, t_17, false) := ⟨by kernel_rfl, fun h => by simp at h⟩
def t_18 : TyD := { und := TypeDesc.struct #[{ name := "typ", type := 17, offset := 0, embedded := false, tag := "", pkgPath := "internal/runtime/maps", byteOffset := 0 }], size := 1, bytes := 8, zero := [Value.pointer none], fl := false }
theorem i_18 : TabE Try.prog (18, t_18, false) := ⟨by kernel_rfl, fun h => by simp at h⟩
def t_19 : TyD := { und := TypeDesc.struct #[{ name := "typ", type := 17, offset := 0, embedded := false, tag := "", pkgPath := "internal/runtime/maps", byteOffset := 0 }], size := 1, bytes := 8, zero := [Value.pointer none], fl := false }
theorem i_19 : TabE Try.prog (19, t_19, false) := ⟨by kernel_rfl, fun h => by simp at h⟩
def t_21 : TyD := { und := TypeDesc.int IntKind.i32, size := 1, bytes := 4, zero := [Value.int IntKind.i32 0], fl := true }
theorem i_21 : TabE Try.prog (21, t_21, false) := ⟨by kernel_rfl, fun h => by simp at h⟩
def t_22 : TyD := { und := TypeDesc.struct #[{ name := "P", type := 2, offset := 0, embedded := false, tag := "", pkgPath := "", byteOffset := 0 }, { name := "Q", type := 2, offset := 1, embedded := false, tag := "", pkgPath := "", byteOffset := 8 }], size := 2, bytes := 16, zero := [Value.int IntKind.i64 0, Value.int IntKind.i64 0], fl := true }
theorem i_22 : TabE Try.prog (22, t_22, true) := ⟨by kernel_rfl, fun _ => by kernel_rfl⟩
def t_23 : TyD := { und := TypeDesc.struct #[{ name := "P", type := 2, offset := 0, embedded := false, tag := "", pkgPath := "", byteOffset := 0 }, { name := "Q", type := 2, offset := 1, embedded := false, tag := "", pkgPath := "", byteOffset := 8 }], size := 2, bytes := 16, zero := [Value.int IntKind.i64 0, Value.int IntKind.i64 0], fl := true }
theorem i_23 : TabE Try.prog (23, t_23, true) := ⟨by kernel_rfl, fun _ => by kernel_rfl⟩
def t_24 : TyD := { und := TypeDesc.slice 23, size := 1, bytes := 24, zero := [Value.slice none 0 0], fl := false }
theorem i_24 : TabE Try.prog (24, t_24, false) := ⟨by kernel_rfl, fun h => by simp at h⟩
def t_25 : TyD := { und := TypeDesc.struct #[{ name := "Unit", type := 23, offset := 0, embedded := false, tag := "", pkgPath := "", byteOffset := 0 }, { name := "Errors", type := 24, offset := 2, embedded := false, tag := "", pkgPath := "", byteOffset := 16 }], size := 3, bytes := 40, zero := [Value.int IntKind.i64 0, Value.int IntKind.i64 0, Value.slice none 0 0], fl := false }
theorem i_25 : TabE Try.prog (25, t_25, true) := ⟨by kernel_rfl, fun _ => by kernel_rfl⟩
def t_26 : TyD := { und := TypeDesc.struct #[{ name := "Unit", type := 23, offset := 0, embedded := false, tag := "", pkgPath := "", byteOffset := 0 }, { name := "Errors", type := 24, offset := 2, embedded := false, tag := "", pkgPath := "", byteOffset := 16 }], size := 3, bytes := 40, zero := [Value.int IntKind.i64 0, Value.int IntKind.i64 0, Value.slice none 0 0], fl := false }
theorem i_26 : TabE Try.prog (26, t_26, true) := ⟨by kernel_rfl, fun _ => by kernel_rfl⟩
def t_27 : TyD := { und := TypeDesc.struct #[{ name := "Parts", type := 2, offset := 0, embedded := false, tag := "", pkgPath := "", byteOffset := 0 }, { name := "Back", type := 4, offset := 1, embedded := false, tag := "", pkgPath := "", byteOffset := 8 }], size := 2, bytes := 16, zero := [Value.int IntKind.i64 0, Value.bool false], fl := true }
theorem i_27 : TabE Try.prog (27, t_27, true) := ⟨by kernel_rfl, fun _ => by kernel_rfl⟩
def t_28 : TyD := { und := TypeDesc.struct #[{ name := "Parts", type := 2, offset := 0, embedded := false, tag := "", pkgPath := "", byteOffset := 0 }, { name := "Back", type := 4, offset := 1, embedded := false, tag := "", pkgPath := "", byteOffset := 8 }], size := 2, bytes := 16, zero := [Value.int IntKind.i64 0, Value.bool false], fl := true }
theorem i_28 : TabE Try.prog (28, t_28, true) := ⟨by kernel_rfl, fun _ => by kernel_rfl⟩
def t_29 : TyD := { und := TypeDesc.slice 94, size := 1, bytes := 24, zero := [Value.slice none 0 0], fl := false }
theorem i_29 : TabE Try.prog (29, t_29, false) := ⟨by kernel_rfl, fun h => by simp at h⟩
def t_30 : TyD := { und := TypeDesc.struct #[{ name := "Scale", type := 26, offset := 0, embedded := false, tag := "", pkgPath := "", byteOffset := 0 }, { name := "Vernier", type := 28, offset := 3, embedded := false, tag := "", pkgPath := "", byteOffset := 40 }, { name := "Grows", type := 23, offset := 5, embedded := false, tag := "", pkgPath := "", byteOffset := 56 }, { name := "Things", type := 29, offset := 7, embedded := false, tag := "", pkgPath := "", byteOffset := 72 }], size := 8, bytes := 96, zero := [Value.int IntKind.i64 0, Value.int IntKind.i64 0, Value.slice none 0 0, Value.int IntKind.i64 0, Value.bool false, Value.int IntKind.i64 0, Value.int IntKind.i64 0, Value.slice none 0 0], fl := false }
theorem i_30 : TabE Try.prog (30, t_30, true) := ⟨by kernel_rfl, fun _ => by kernel_rfl⟩
def t_31 : TyD := { und := TypeDesc.struct #[{ name := "Scale", type := 26, offset := 0, embedded := false, tag := "", pkgPath := "", byteOffset := 0 }, { name := "Vernier", type := 28, offset := 3, embedded := false, tag := "", pkgPath := "", byteOffset := 40 }, { name := "Grows", type := 23, offset := 5, embedded := false, tag := "", pkgPath := "", byteOffset := 56 }, { name := "Things", type := 29, offset := 7, embedded := false, tag := "", pkgPath := "", byteOffset := 72 }], size := 8, bytes := 96, zero := [Value.int IntKind.i64 0, Value.int IntKind.i64 0, Value.slice none 0 0, Value.int IntKind.i64 0, Value.bool false, Value.int IntKind.i64 0, Value.int IntKind.i64 0, Value.slice none 0 0], fl := false }
theorem i_31 : TabE Try.prog (31, t_31, true) := ⟨by kernel_rfl, fun _ => by kernel_rfl⟩
def t_32 : TyD := { und := TypeDesc.struct #[{ name := "Thing", type := 2, offset := 0, embedded := false, tag := "", pkgPath := "", byteOffset := 0 }, { name := "Warm", type := 23, offset := 1, embedded := false, tag := "", pkgPath := "", byteOffset := 8 }, { name := "Start", type := 23, offset := 3, embedded := false, tag := "", pkgPath := "", byteOffset := 24 }], size := 5, bytes := 40, zero := [Value.int IntKind.i64 0, Value.int IntKind.i64 0, Value.int IntKind.i64 0, Value.int IntKind.i64 0, Value.int IntKind.i64 0], fl := true }
theorem i_32 : TabE Try.prog (32, t_32, true) := ⟨by kernel_rfl, fun _ => by kernel_rfl⟩
def t_33 : TyD := { und := TypeDesc.struct #[{ name := "Thing", type := 2, offset := 0, embedded := false, tag := "", pkgPath := "", byteOffset := 0 }, { name := "Warm", type := 23, offset := 1, embedded := false, tag := "", pkgPath := "", byteOffset := 8 }, { name := "Start", type := 23, offset := 3, embedded := false, tag := "", pkgPath := "", byteOffset := 24 }], size := 5, bytes := 40, zero := [Value.int IntKind.i64 0, Value.int IntKind.i64 0, Value.int IntKind.i64 0, Value.int IntKind.i64 0, Value.int IntKind.i64 0], fl := true }
theorem i_33 : TabE Try.prog (33, t_33, true) := ⟨by kernel_rfl, fun _ => by kernel_rfl⟩
def t_34 : TyD := { und := TypeDesc.func #[31, 3] #[3] false, size := 1, bytes := 8, zero := [Value.nilFunc], fl := false }
theorem i_34 : TabE Try.prog (34, t_34, false) := ⟨by kernel_rfl, fun h => by simp at h⟩
def t_35 : TyD := { und := TypeDesc.struct #[{ name := "P", type := 2, offset := 0, embedded := false, tag := "", pkgPath := "", byteOffset := 0 }, { name := "Q", type := 2, offset := 1, embedded := false, tag := "", pkgPath := "", byteOffset := 8 }], size := 2, bytes := 16, zero := [Value.int IntKind.i64 0, Value.int IntKind.i64 0], fl := true }
theorem i_35 : TabE Try.prog (35, t_35, true) := ⟨by kernel_rfl, fun _ => by kernel_rfl⟩
def t_37 : TyD := { und := TypeDesc.func #[44, 47] #[35, 35, 2] false, size := 1, bytes := 8, zero := [Value.nilFunc], fl := false }
theorem i_37 : TabE Try.prog (37, t_37, false) := ⟨by kernel_rfl, fun h => by simp at h⟩
def t_38 : TyD := { und := TypeDesc.slice 35, size := 1, bytes := 24, zero := [Value.slice none 0 0], fl := false }
theorem i_38 : TabE Try.prog (38, t_38, false) := ⟨by kernel_rfl, fun h => by simp at h⟩
def t_39 : TyD := { und := TypeDesc.struct #[{ name := "Unit", type := 35, offset := 0, embedded := false, tag := "", pkgPath := "", byteOffset := 0 }, { name := "Errors", type := 38, offset := 2, embedded := false, tag := "", pkgPath := "", byteOffset := 16 }], size := 3, bytes := 40, zero := [Value.int IntKind.i64 0, Value.int IntKind.i64 0, Value.slice none 0 0], fl := false }
theorem i_39 : TabE Try.prog (39, t_39, true) := ⟨by kernel_rfl, fun _ => by kernel_rfl⟩
def t_40 : TyD := { und := TypeDesc.struct #[{ name := "Unit", type := 35, offset := 0, embedded := false, tag := "", pkgPath := "", byteOffset := 0 }, { name := "Errors", type := 38, offset := 2, embedded := false, tag := "", pkgPath := "", byteOffset := 16 }], size := 3, bytes := 40, zero := [Value.int IntKind.i64 0, Value.int IntKind.i64 0, Value.slice none 0 0], fl := false }
theorem i_40 : TabE Try.prog (40, t_40, true) := ⟨by kernel_rfl, fun _ => by kernel_rfl⟩
def t_41 : TyD := { und := TypeDesc.struct #[{ name := "Parts", type := 2, offset := 0, embedded := false, tag := "", pkgPath := "", byteOffset := 0 }, { name := "Back", type := 4, offset := 1, embedded := false, tag := "", pkgPath := "", byteOffset := 8 }], size := 2, bytes := 16, zero := [Value.int IntKind.i64 0, Value.bool false], fl := true }
theorem i_41 : TabE Try.prog (41, t_41, true) := ⟨by kernel_rfl, fun _ => by kernel_rfl⟩
def t_42 : TyD := { und := TypeDesc.slice 61, size := 1, bytes := 24, zero := [Value.slice none 0 0], fl := false }
theorem i_42 : TabE Try.prog (42, t_42, false) := ⟨by kernel_rfl, fun h => by simp at h⟩
def t_43 : TyD := { und := TypeDesc.struct #[{ name := "Scale", type := 40, offset := 0, embedded := false, tag := "", pkgPath := "", byteOffset := 0 }, { name := "Vernier", type := 41, offset := 3, embedded := false, tag := "", pkgPath := "", byteOffset := 40 }, { name := "Grows", type := 35, offset := 5, embedded := false, tag := "", pkgPath := "", byteOffset := 56 }, { name := "Things", type := 42, offset := 7, embedded := false, tag := "", pkgPath := "", byteOffset := 72 }], size := 8, bytes := 96, zero := [Value.int IntKind.i64 0, Value.int IntKind.i64 0, Value.slice none 0 0, Value.int IntKind.i64 0, Value.bool false, Value.int IntKind.i64 0, Value.int IntKind.i64 0, Value.slice none 0 0], fl := false }
theorem i_43 : TabE Try.prog (43, t_43, true) := ⟨by kernel_rfl, fun _ => by kernel_rfl⟩
def t_44 : TyD := { und := TypeDesc.struct #[{ name := "Scale", type := 40, offset := 0, embedded := false, tag := "", pkgPath := "", byteOffset := 0 }, { name := "Vernier", type := 41, offset := 3, embedded := false, tag := "", pkgPath := "", byteOffset := 40 }, { name := "Grows", type := 35, offset := 5, embedded := false, tag := "", pkgPath := "", byteOffset := 56 }, { name := "Things", type := 42, offset := 7, embedded := false, tag := "", pkgPath := "", byteOffset := 72 }], size := 8, bytes := 96, zero := [Value.int IntKind.i64 0, Value.int IntKind.i64 0, Value.slice none 0 0, Value.int IntKind.i64 0, Value.bool false, Value.int IntKind.i64 0, Value.int IntKind.i64 0, Value.slice none 0 0], fl := false }
theorem i_44 : TabE Try.prog (44, t_44, true) := ⟨by kernel_rfl, fun _ => by kernel_rfl⟩
def t_45 : TyD := { und := TypeDesc.func #[31] #[44] false, size := 1, bytes := 8, zero := [Value.nilFunc], fl := false }
theorem i_45 : TabE Try.prog (45, t_45, false) := ⟨by kernel_rfl, fun h => by simp at h⟩
def t_46 : TyD := { und := TypeDesc.struct #[{ name := "Thing", type := 2, offset := 0, embedded := false, tag := "", pkgPath := "", byteOffset := 0 }, { name := "Warm", type := 35, offset := 1, embedded := false, tag := "", pkgPath := "", byteOffset := 8 }, { name := "Start", type := 35, offset := 3, embedded := false, tag := "", pkgPath := "", byteOffset := 24 }], size := 5, bytes := 40, zero := [Value.int IntKind.i64 0, Value.int IntKind.i64 0, Value.int IntKind.i64 0, Value.int IntKind.i64 0, Value.int IntKind.i64 0], fl := true }
theorem i_46 : TabE Try.prog (46, t_46, true) := ⟨by kernel_rfl, fun _ => by kernel_rfl⟩
def t_47 : TyD := { und := TypeDesc.struct #[{ name := "Thing", type := 2, offset := 0, embedded := false, tag := "", pkgPath := "", byteOffset := 0 }, { name := "Warm", type := 35, offset := 1, embedded := false, tag := "", pkgPath := "", byteOffset := 8 }, { name := "Start", type := 35, offset := 3, embedded := false, tag := "", pkgPath := "", byteOffset := 24 }], size := 5, bytes := 40, zero := [Value.int IntKind.i64 0, Value.int IntKind.i64 0, Value.int IntKind.i64 0, Value.int IntKind.i64 0, Value.int IntKind.i64 0], fl := true }
theorem i_47 : TabE Try.prog (47, t_47, true) := ⟨by kernel_rfl, fun _ => by kernel_rfl⟩
def t_48 : TyD := { und := TypeDesc.func #[33] #[47] false, size := 1, bytes := 8, zero := [Value.nilFunc], fl := false }
theorem i_48 : TabE Try.prog (48, t_48, false) := ⟨by kernel_rfl, fun h => by simp at h⟩
def t_49 : TyD := { und := TypeDesc.func #[35, 35] #[4] false, size := 1, bytes := 8, zero := [Value.nilFunc], fl := false }
theorem i_49 : TabE Try.prog (49, t_49, false) := ⟨by kernel_rfl, fun h => by simp at h⟩
def t_50 : TyD := { und := TypeDesc.func #[44, 44] #[4] false, size := 1, bytes := 8, zero := [Value.nilFunc], fl := false }
theorem i_50 : TabE Try.prog (50, t_50, false) := ⟨by kernel_rfl, fun h => by simp at h⟩
def t_51 : TyD := { und := TypeDesc.func #[31, 33] #[4] false, size := 1, bytes := 8, zero := [Value.nilFunc], fl := false }
theorem i_51 : TabE Try.prog (51, t_51, false) := ⟨by kernel_rfl, fun h => by simp at h⟩
def t_52 : TyD := { und := TypeDesc.struct #[{ name := "Low", type := 35, offset := 0, embedded := false, tag := "", pkgPath := "", byteOffset := 0 }, { name := "High", type := 35, offset := 2, embedded := false, tag := "", pkgPath := "", byteOffset := 16 }], size := 4, bytes := 32, zero := [Value.int IntKind.i64 0, Value.int IntKind.i64 0, Value.int IntKind.i64 0, Value.int IntKind.i64 0], fl := true }
theorem i_52 : TabE Try.prog (52, t_52, true) := ⟨by kernel_rfl, fun _ => by kernel_rfl⟩
def t_53 : TyD := { und := TypeDesc.struct #[{ name := "Low", type := 35, offset := 0, embedded := false, tag := "", pkgPath := "", byteOffset := 0 }, { name := "High", type := 35, offset := 2, embedded := false, tag := "", pkgPath := "", byteOffset := 16 }], size := 4, bytes := 32, zero := [Value.int IntKind.i64 0, Value.int IntKind.i64 0, Value.int IntKind.i64 0, Value.int IntKind.i64 0], fl := true }
theorem i_53 : TabE Try.prog (53, t_53, true) := ⟨by kernel_rfl, fun _ => by kernel_rfl⟩
def t_54 : TyD := { und := TypeDesc.struct #[{ name := "Shot", type := 47, offset := 0, embedded := false, tag := "", pkgPath := "", byteOffset := 0 }, { name := "First", type := 35, offset := 5, embedded := false, tag := "", pkgPath := "", byteOffset := 40 }, { name := "Second", type := 35, offset := 7, embedded := false, tag := "", pkgPath := "", byteOffset := 56 }, { name := "Length", type := 35, offset := 9, embedded := false, tag := "", pkgPath := "", byteOffset := 72 }, { name := "Open", type := 53, offset := 11, embedded := false, tag := "", pkgPath := "", byteOffset := 88 }], size := 15, bytes := 120, zero := [Value.int IntKind.i64 0, Value.int IntKind.i64 0, Value.int IntKind.i64 0, Value.int IntKind.i64 0, Value.int IntKind.i64 0, Value.int IntKind.i64 0, Value.int IntKind.i64 0, Value.int IntKind.i64 0, Value.int IntKind.i64 0, Value.int IntKind.i64 0, Value.int IntKind.i64 0, Value.int IntKind.i64 0, Value.int IntKind.i64 0, Value.int IntKind.i64 0, Value.int IntKind.i64 0], fl := true }
theorem i_54 : TabE Try.prog (54, t_54, true) := ⟨by kernel_rfl, fun _ => by kernel_rfl⟩
def t_55 : TyD := { und := TypeDesc.struct #[{ name := "Shot", type := 47, offset := 0, embedded := false, tag := "", pkgPath := "", byteOffset := 0 }, { name := "First", type := 35, offset := 5, embedded := false, tag := "", pkgPath := "", byteOffset := 40 }, { name := "Second", type := 35, offset := 7, embedded := false, tag := "", pkgPath := "", byteOffset := 56 }, { name := "Length", type := 35, offset := 9, embedded := false, tag := "", pkgPath := "", byteOffset := 72 }, { name := "Open", type := 53, offset := 11, embedded := false, tag := "", pkgPath := "", byteOffset := 88 }], size := 15, bytes := 120, zero := [Value.int IntKind.i64 0, Value.int IntKind.i64 0, Value.int IntKind.i64 0, Value.int IntKind.i64 0, Value.int IntKind.i64 0, Value.int IntKind.i64 0, Value.int IntKind.i64 0, Value.int IntKind.i64 0, Value.int IntKind.i64 0, Value.int IntKind.i64 0, Value.int IntKind.i64 0, Value.int IntKind.i64 0, Value.int IntKind.i64 0, Value.int IntKind.i64 0, Value.int IntKind.i64 0], fl := true }
theorem i_55 : TabE Try.prog (55, t_55, true) := ⟨by kernel_rfl, fun _ => by kernel_rfl⟩
def t_57 : TyD := { und := TypeDesc.func #[44, 47] #[55, 2] false, size := 1, bytes := 8, zero := [Value.nilFunc], fl := false }
theorem i_57 : TabE Try.prog (57, t_57, false) := ⟨by kernel_rfl, fun h => by simp at h⟩
def t_59 : TyD := { und := TypeDesc.func #[53, 35] #[4, 2] false, size := 1, bytes := 8, zero := [Value.nilFunc], fl := false }
theorem i_59 : TabE Try.prog (59, t_59, false) := ⟨by kernel_rfl, fun h => by simp at h⟩
def t_60 : TyD := { und := TypeDesc.struct #[{ name := "Name", type := 9, offset := 0, embedded := false, tag := "", pkgPath := "", byteOffset := 0 }, { name := "Length", type := 35, offset := 1, embedded := false, tag := "", pkgPath := "", byteOffset := 16 }, { name := "Grows", type := 35, offset := 3, embedded := false, tag := "", pkgPath := "", byteOffset := 32 }], size := 5, bytes := 48, zero := [Value.string ⟨#[]⟩, Value.int IntKind.i64 0, Value.int IntKind.i64 0, Value.int IntKind.i64 0, Value.int IntKind.i64 0], fl := true }
theorem i_60 : TabE Try.prog (60, t_60, true) := ⟨by kernel_rfl, fun _ => by kernel_rfl⟩
def t_61 : TyD := { und := TypeDesc.struct #[{ name := "Name", type := 9, offset := 0, embedded := false, tag := "", pkgPath := "", byteOffset := 0 }, { name := "Length", type := 35, offset := 1, embedded := false, tag := "", pkgPath := "", byteOffset := 16 }, { name := "Grows", type := 35, offset := 3, embedded := false, tag := "", pkgPath := "", byteOffset := 32 }], size := 5, bytes := 48, zero := [Value.string ⟨#[]⟩, Value.int IntKind.i64 0, Value.int IntKind.i64 0, Value.int IntKind.i64 0, Value.int IntKind.i64 0], fl := true }
theorem i_61 : TabE Try.prog (61, t_61, true) := ⟨by kernel_rfl, fun _ => by kernel_rfl⟩
def t_62 : TyD := { und := TypeDesc.func #[44, 47] #[4] false, size := 1, bytes := 8, zero := [Value.nilFunc], fl := false }
theorem i_62 : TabE Try.prog (62, t_62, false) := ⟨by kernel_rfl, fun h => by simp at h⟩
def t_63 : TyD := { und := TypeDesc.func #[26, 3] #[3] false, size := 1, bytes := 8, zero := [Value.nilFunc], fl := false }
theorem i_63 : TabE Try.prog (63, t_63, false) := ⟨by kernel_rfl, fun h => by simp at h⟩
def t_64 : TyD := { und := TypeDesc.func #[29, 3] #[3] false, size := 1, bytes := 8, zero := [Value.nilFunc], fl := false }
theorem i_64 : TabE Try.prog (64, t_64, false) := ⟨by kernel_rfl, fun h => by simp at h⟩
def t_65 : TyD := { und := TypeDesc.func #[66, 67] #[35, 35, 2] false, size := 1, bytes := 8, zero := [Value.nilFunc], fl := false }
theorem i_65 : TabE Try.prog (65, t_65, false) := ⟨by kernel_rfl, fun h => by simp at h⟩
def t_66 : TyD := { und := TypeDesc.pointer 44, size := 1, bytes := 8, zero := [Value.pointer none], fl := false }
theorem i_66 : TabE Try.prog (66, t_66, false) := ⟨by kernel_rfl, fun h => by simp at h⟩
def t_67 : TyD := { und := TypeDesc.pointer 47, size := 1, bytes := 8, zero := [Value.pointer none], fl := false }
theorem i_67 : TabE Try.prog (67, t_67, false) := ⟨by kernel_rfl, fun h => by simp at h⟩
def t_68 : TyD := { und := TypeDesc.func #[26] #[40] false, size := 1, bytes := 8, zero := [Value.nilFunc], fl := false }
theorem i_68 : TabE Try.prog (68, t_68, false) := ⟨by kernel_rfl, fun h => by simp at h⟩
def t_69 : TyD := { und := TypeDesc.func #[28] #[41] false, size := 1, bytes := 8, zero := [Value.nilFunc], fl := false }
theorem i_69 : TabE Try.prog (69, t_69, false) := ⟨by kernel_rfl, fun h => by simp at h⟩
def t_70 : TyD := { und := TypeDesc.func #[23] #[35] false, size := 1, bytes := 8, zero := [Value.nilFunc], fl := false }
theorem i_70 : TabE Try.prog (70, t_70, false) := ⟨by kernel_rfl, fun h => by simp at h⟩
def t_71 : TyD := { und := TypeDesc.func #[29] #[42] false, size := 1, bytes := 8, zero := [Value.nilFunc], fl := false }
theorem i_71 : TabE Try.prog (71, t_71, false) := ⟨by kernel_rfl, fun h => by simp at h⟩
def t_72 : TyD := { und := TypeDesc.pointer 74, size := 1, bytes := 8, zero := [Value.pointer none], fl := false }
theorem i_72 : TabE Try.prog (72, t_72, false) := ⟨by kernel_rfl, fun h => by simp at h⟩
def t_73 : TyD := { und := TypeDesc.struct #[{ name := "bad", type := 4, offset := 0, embedded := false, tag := "", pkgPath := "loop.example/g01254/impl", byteOffset := 0 }], size := 1, bytes := 1, zero := [Value.bool false], fl := true }
theorem i_73 : TabE Try.prog (73, t_73, true) := ⟨by kernel_rfl, fun _ => by kernel_rfl⟩
def t_74 : TyD := { und := TypeDesc.struct #[{ name := "bad", type := 4, offset := 0, embedded := false, tag := "", pkgPath := "loop.example/g01254/impl", byteOffset := 0 }], size := 1, bytes := 1, zero := [Value.bool false], fl := true }
theorem i_74 : TabE Try.prog (74, t_74, true) := ⟨by kernel_rfl, fun _ => by kernel_rfl⟩
def t_75 : TyD := { und := TypeDesc.func #[35, 35] #[35] false, size := 1, bytes := 8, zero := [Value.nilFunc], fl := false }
theorem i_75 : TabE Try.prog (75, t_75, false) := ⟨by kernel_rfl, fun h => by simp at h⟩
def t_76 : TyD := { und := TypeDesc.func #[2] #[35] false, size := 1, bytes := 8, zero := [Value.nilFunc], fl := false }
theorem i_76 : TabE Try.prog (76, t_76, false) := ⟨by kernel_rfl, fun h => by simp at h⟩
def t_78 : TyD := { und := TypeDesc.func #[40, 35] #[40, 2] false, size := 1, bytes := 8, zero := [Value.nilFunc], fl := false }
theorem i_78 : TabE Try.prog (78, t_78, false) := ⟨by kernel_rfl, fun h => by simp at h⟩
def t_80 : TyD := { und := TypeDesc.func #[40, 41, 35] #[35, 2] false, size := 1, bytes := 8, zero := [Value.nilFunc], fl := false }
theorem i_80 : TabE Try.prog (80, t_80, false) := ⟨by kernel_rfl, fun h => by simp at h⟩
def t_81 : TyD := { und := TypeDesc.func #[40, 40] #[4] false, size := 1, bytes := 8, zero := [Value.nilFunc], fl := false }
theorem i_81 : TabE Try.prog (81, t_81, false) := ⟨by kernel_rfl, fun h => by simp at h⟩
def t_82 : TyD := { und := TypeDesc.func #[41, 41] #[4] false, size := 1, bytes := 8, zero := [Value.nilFunc], fl := false }
theorem i_82 : TabE Try.prog (82, t_82, false) := ⟨by kernel_rfl, fun h => by simp at h⟩
def t_83 : TyD := { und := TypeDesc.func #[42, 42] #[4] false, size := 1, bytes := 8, zero := [Value.nilFunc], fl := false }
theorem i_83 : TabE Try.prog (83, t_83, false) := ⟨by kernel_rfl, fun h => by simp at h⟩
def t_84 : TyD := { und := TypeDesc.func #[44, 47, 35, 35] #[35, 2] false, size := 1, bytes := 8, zero := [Value.nilFunc], fl := false }
theorem i_84 : TabE Try.prog (84, t_84, false) := ⟨by kernel_rfl, fun h => by simp at h⟩
def t_86 : TyD := { und := TypeDesc.func #[44, 47, 35, 35] #[53, 2] false, size := 1, bytes := 8, zero := [Value.nilFunc], fl := false }
theorem i_86 : TabE Try.prog (86, t_86, false) := ⟨by kernel_rfl, fun h => by simp at h⟩
def t_87 : TyD := { und := TypeDesc.func #[66, 67] #[55, 2] false, size := 1, bytes := 8, zero := [Value.nilFunc], fl := false }
theorem i_87 : TabE Try.prog (87, t_87, false) := ⟨by kernel_rfl, fun h => by simp at h⟩
def t_88 : TyD := { und := TypeDesc.func #[53] #[4] false, size := 1, bytes := 8, zero := [Value.nilFunc], fl := false }
theorem i_88 : TabE Try.prog (88, t_88, false) := ⟨by kernel_rfl, fun h => by simp at h⟩
def t_89 : TyD := { und := TypeDesc.func #[35] #[4] false, size := 1, bytes := 8, zero := [Value.nilFunc], fl := false }
theorem i_89 : TabE Try.prog (89, t_89, false) := ⟨by kernel_rfl, fun h => by simp at h⟩
def t_90 : TyD := { und := TypeDesc.func #[35, 35] #[2] false, size := 1, bytes := 8, zero := [Value.nilFunc], fl := false }
theorem i_90 : TabE Try.prog (90, t_90, false) := ⟨by kernel_rfl, fun h => by simp at h⟩
def t_91 : TyD := { und := TypeDesc.func #[24, 3] #[3] false, size := 1, bytes := 8, zero := [Value.nilFunc], fl := false }
theorem i_91 : TabE Try.prog (91, t_91, false) := ⟨by kernel_rfl, fun h => by simp at h⟩
def t_92 : TyD := { und := TypeDesc.func #[94, 3] #[3] false, size := 1, bytes := 8, zero := [Value.nilFunc], fl := false }
theorem i_92 : TabE Try.prog (92, t_92, false) := ⟨by kernel_rfl, fun h => by simp at h⟩
def t_93 : TyD := { und := TypeDesc.struct #[{ name := "Name", type := 9, offset := 0, embedded := false, tag := "", pkgPath := "", byteOffset := 0 }, { name := "Length", type := 23, offset := 1, embedded := false, tag := "", pkgPath := "", byteOffset := 16 }, { name := "Grows", type := 23, offset := 3, embedded := false, tag := "", pkgPath := "", byteOffset := 32 }], size := 5, bytes := 48, zero := [Value.string ⟨#[]⟩, Value.int IntKind.i64 0, Value.int IntKind.i64 0, Value.int IntKind.i64 0, Value.int IntKind.i64 0], fl := true }
theorem i_93 : TabE Try.prog (93, t_93, true) := ⟨by kernel_rfl, fun _ => by kernel_rfl⟩
def t_94 : TyD := { und := TypeDesc.struct #[{ name := "Name", type := 9, offset := 0, embedded := false, tag := "", pkgPath := "", byteOffset := 0 }, { name := "Length", type := 23, offset := 1, embedded := false, tag := "", pkgPath := "", byteOffset := 16 }, { name := "Grows", type := 23, offset := 3, embedded := false, tag := "", pkgPath := "", byteOffset := 32 }], size := 5, bytes := 48, zero := [Value.string ⟨#[]⟩, Value.int IntKind.i64 0, Value.int IntKind.i64 0, Value.int IntKind.i64 0, Value.int IntKind.i64 0], fl := true }
theorem i_94 : TabE Try.prog (94, t_94, true) := ⟨by kernel_rfl, fun _ => by kernel_rfl⟩
def t_95 : TyD := { und := TypeDesc.func #[66] #[4] false, size := 1, bytes := 8, zero := [Value.nilFunc], fl := false }
theorem i_95 : TabE Try.prog (95, t_95, false) := ⟨by kernel_rfl, fun h => by simp at h⟩
def t_96 : TyD := { und := TypeDesc.func #[66, 67] #[4] false, size := 1, bytes := 8, zero := [Value.nilFunc], fl := false }
theorem i_96 : TabE Try.prog (96, t_96, false) := ⟨by kernel_rfl, fun h => by simp at h⟩
def t_97 : TyD := { und := TypeDesc.func #[35, 35] #[35, 2] false, size := 1, bytes := 8, zero := [Value.nilFunc], fl := false }
theorem i_97 : TabE Try.prog (97, t_97, false) := ⟨by kernel_rfl, fun h => by simp at h⟩
def t_98 : TyD := { und := TypeDesc.array 2 35, size := 4, bytes := 32, zero := [Value.int IntKind.i64 0, Value.int IntKind.i64 0, Value.int IntKind.i64 0, Value.int IntKind.i64 0], fl := true }
theorem i_98 : TabE Try.prog (98, t_98, false) := ⟨by kernel_rfl, fun h => by simp at h⟩
def t_99 : TyD := { und := TypeDesc.func #[100, 101, 35] #[35, 2] false, size := 1, bytes := 8, zero := [Value.nilFunc], fl := false }
theorem i_99 : TabE Try.prog (99, t_99, false) := ⟨by kernel_rfl, fun h => by simp at h⟩
def t_100 : TyD := { und := TypeDesc.pointer 40, size := 1, bytes := 8, zero := [Value.pointer none], fl := false }
theorem i_100 : TabE Try.prog (100, t_100, false) := ⟨by kernel_rfl, fun h => by simp at h⟩
def t_101 : TyD := { und := TypeDesc.pointer 41, size := 1, bytes := 8, zero := [Value.pointer none], fl := false }
theorem i_101 : TabE Try.prog (101, t_101, false) := ⟨by kernel_rfl, fun h => by simp at h⟩
def t_102 : TyD := { und := TypeDesc.func #[24] #[38] false, size := 1, bytes := 8, zero := [Value.nilFunc], fl := false }
theorem i_102 : TabE Try.prog (102, t_102, false) := ⟨by kernel_rfl, fun h => by simp at h⟩
def t_103 : TyD := { und := TypeDesc.func #[94] #[61] false, size := 1, bytes := 8, zero := [Value.nilFunc], fl := false }
theorem i_103 : TabE Try.prog (103, t_103, false) := ⟨by kernel_rfl, fun h => by simp at h⟩
def t_104 : TyD := { und := TypeDesc.func #[2, 2] #[35] false, size := 1, bytes := 8, zero := [Value.nilFunc], fl := false }
theorem i_104 : TabE Try.prog (104, t_104, false) := ⟨by kernel_rfl, fun h => by simp at h⟩
def t_105 : TyD := { und := TypeDesc.func #[40] #[4] false, size := 1, bytes := 8, zero := [Value.nilFunc], fl := false }
theorem i_105 : TabE Try.prog (105, t_105, false) := ⟨by kernel_rfl, fun h => by simp at h⟩
def t_106 : TyD := { und := TypeDesc.func #[35] #[35] false, size := 1, bytes := 8, zero := [Value.nilFunc], fl := false }
theorem i_106 : TabE Try.prog (106, t_106, false) := ⟨by kernel_rfl, fun h => by simp at h⟩
def t_108 : TyD := { und := TypeDesc.func #[40, 41, 35] #[2, 2] false, size := 1, bytes := 8, zero := [Value.nilFunc], fl := false }
theorem i_108 : TabE Try.prog (108, t_108, false) := ⟨by kernel_rfl, fun h => by simp at h⟩
def t_110 : TyD := { und := TypeDesc.func #[2, 2] #[2, 4] false, size := 1, bytes := 8, zero := [Value.nilFunc], fl := false }
theorem i_110 : TabE Try.prog (110, t_110, false) := ⟨by kernel_rfl, fun h => by simp at h⟩
def t_111 : TyD := { und := TypeDesc.func #[35] #[35, 2] false, size := 1, bytes := 8, zero := [Value.nilFunc], fl := false }
theorem i_111 : TabE Try.prog (111, t_111, false) := ⟨by kernel_rfl, fun h => by simp at h⟩
def t_112 : TyD := { und := TypeDesc.func #[] #[35] false, size := 1, bytes := 8, zero := [Value.nilFunc], fl := false }
theorem i_112 : TabE Try.prog (112, t_112, false) := ⟨by kernel_rfl, fun h => by simp at h⟩
def t_113 : TyD := { und := TypeDesc.func #[38, 38] #[4] false, size := 1, bytes := 8, zero := [Value.nilFunc], fl := false }
theorem i_113 : TabE Try.prog (113, t_113, false) := ⟨by kernel_rfl, fun h => by simp at h⟩
def t_114 : TyD := { und := TypeDesc.func #[61, 61] #[4] false, size := 1, bytes := 8, zero := [Value.nilFunc], fl := false }
theorem i_114 : TabE Try.prog (114, t_114, false) := ⟨by kernel_rfl, fun h => by simp at h⟩
def t_115 : TyD := { und := TypeDesc.func #[44, 47, 35, 35] #[2] false, size := 1, bytes := 8, zero := [Value.nilFunc], fl := false }
theorem i_115 : TabE Try.prog (115, t_115, false) := ⟨by kernel_rfl, fun h => by simp at h⟩
def t_116 : TyD := { und := TypeDesc.func #[44, 47, 35] #[35] false, size := 1, bytes := 8, zero := [Value.nilFunc], fl := false }
theorem i_116 : TabE Try.prog (116, t_116, false) := ⟨by kernel_rfl, fun h => by simp at h⟩
def t_117 : TyD := { und := TypeDesc.func #[40, 41] #[35] false, size := 1, bytes := 8, zero := [Value.nilFunc], fl := false }
theorem i_117 : TabE Try.prog (117, t_117, false) := ⟨by kernel_rfl, fun h => by simp at h⟩
def t_118 : TyD := { und := TypeDesc.func #[53] #[53, 2] false, size := 1, bytes := 8, zero := [Value.nilFunc], fl := false }
theorem i_118 : TabE Try.prog (118, t_118, false) := ⟨by kernel_rfl, fun h => by simp at h⟩
def t_119 : TyD := { und := TypeDesc.func #[66, 67, 35, 35] #[35, 2] false, size := 1, bytes := 8, zero := [Value.nilFunc], fl := false }
theorem i_119 : TabE Try.prog (119, t_119, false) := ⟨by kernel_rfl, fun h => by simp at h⟩
def t_120 : TyD := { und := TypeDesc.func #[66, 67, 35, 35] #[53, 2] false, size := 1, bytes := 8, zero := [Value.nilFunc], fl := false }
theorem i_120 : TabE Try.prog (120, t_120, false) := ⟨by kernel_rfl, fun h => by simp at h⟩
def t_121 : TyD := { und := TypeDesc.func #[38] #[4] true, size := 1, bytes := 8, zero := [Value.nilFunc], fl := false }
theorem i_121 : TabE Try.prog (121, t_121, false) := ⟨by kernel_rfl, fun h => by simp at h⟩
def t_122 : TyD := { und := TypeDesc.func #[2, 2, 2] #[4] false, size := 1, bytes := 8, zero := [Value.nilFunc], fl := false }
theorem i_122 : TabE Try.prog (122, t_122, false) := ⟨by kernel_rfl, fun h => by simp at h⟩
def t_123 : TyD := { und := TypeDesc.func #[2, 2] #[2] false, size := 1, bytes := 8, zero := [Value.nilFunc], fl := false }
theorem i_123 : TabE Try.prog (123, t_123, false) := ⟨by kernel_rfl, fun h => by simp at h⟩
def t_124 : TyD := { und := TypeDesc.func #[100] #[4] false, size := 1, bytes := 8, zero := [Value.nilFunc], fl := false }
theorem i_124 : TabE Try.prog (124, t_124, false) := ⟨by kernel_rfl, fun h => by simp at h⟩
def t_125 : TyD := { und := TypeDesc.func #[101] #[4] false, size := 1, bytes := 8, zero := [Value.nilFunc], fl := false }
theorem i_125 : TabE Try.prog (125, t_125, false) := ⟨by kernel_rfl, fun h => by simp at h⟩
def t_126 : TyD := { und := TypeDesc.pointer 61, size := 1, bytes := 8, zero := [Value.pointer none], fl := false }
theorem i_126 : TabE Try.prog (126, t_126, false) := ⟨by kernel_rfl, fun h => by simp at h⟩
def t_127 : TyD := { und := TypeDesc.func #[9] #[4] false, size := 1, bytes := 8, zero := [Value.nilFunc], fl := false }
theorem i_127 : TabE Try.prog (127, t_127, false) := ⟨by kernel_rfl, fun h => by simp at h⟩
def t_128 : TyD := { und := TypeDesc.func #[35, 2] #[4] false, size := 1, bytes := 8, zero := [Value.nilFunc], fl := false }
theorem i_128 : TabE Try.prog (128, t_128, false) := ⟨by kernel_rfl, fun h => by simp at h⟩
def t_129 : TyD := { und := TypeDesc.func #[2] #[2] false, size := 1, bytes := 8, zero := [Value.nilFunc], fl := false }
theorem i_129 : TabE Try.prog (129, t_129, false) := ⟨by kernel_rfl, fun h => by simp at h⟩
def t_130 : TyD := { und := TypeDesc.func #[100, 101, 35] #[2, 2] false, size := 1, bytes := 8, zero := [Value.nilFunc], fl := false }
theorem i_130 : TabE Try.prog (130, t_130, false) := ⟨by kernel_rfl, fun h => by simp at h⟩
def t_131 : TyD := { und := TypeDesc.func #[2] #[2, 2] false, size := 1, bytes := 8, zero := [Value.nilFunc], fl := false }
theorem i_131 : TabE Try.prog (131, t_131, false) := ⟨by kernel_rfl, fun h => by simp at h⟩
def t_132 : TyD := { und := TypeDesc.func #[2, 2] #[35, 2] false, size := 1, bytes := 8, zero := [Value.nilFunc], fl := false }
theorem i_132 : TabE Try.prog (132, t_132, false) := ⟨by kernel_rfl, fun h => by simp at h⟩
def t_133 : TyD := { und := TypeDesc.func #[44] #[4] false, size := 1, bytes := 8, zero := [Value.nilFunc], fl := false }
theorem i_133 : TabE Try.prog (133, t_133, false) := ⟨by kernel_rfl, fun h => by simp at h⟩
def t_134 : TyD := { und := TypeDesc.func #[44, 2] #[4] false, size := 1, bytes := 8, zero := [Value.nilFunc], fl := false }
theorem i_134 : TabE Try.prog (134, t_134, false) := ⟨by kernel_rfl, fun h => by simp at h⟩
def t_136 : TyD := { und := TypeDesc.func #[2, 2] #[35, 4] false, size := 1, bytes := 8, zero := [Value.nilFunc], fl := false }
theorem i_136 : TabE Try.prog (136, t_136, false) := ⟨by kernel_rfl, fun h => by simp at h⟩
def t_137 : TyD := { und := TypeDesc.func #[40, 41, 35, 2] #[2] false, size := 1, bytes := 8, zero := [Value.nilFunc], fl := false }
theorem i_137 : TabE Try.prog (137, t_137, false) := ⟨by kernel_rfl, fun h => by simp at h⟩
def t_138 : TyD := { und := TypeDesc.func #[40, 3] #[35] false, size := 1, bytes := 8, zero := [Value.nilFunc], fl := false }
theorem i_138 : TabE Try.prog (138, t_138, false) := ⟨by kernel_rfl, fun h => by simp at h⟩
def t_139 : TyD := { und := TypeDesc.func #[40, 41, 35, 2] #[35] false, size := 1, bytes := 8, zero := [Value.nilFunc], fl := false }
theorem i_139 : TabE Try.prog (139, t_139, false) := ⟨by kernel_rfl, fun h => by simp at h⟩
def t_141 : TyD := { und := TypeDesc.func #[40, 35] #[2, 35] false, size := 1, bytes := 8, zero := [Value.nilFunc], fl := false }
theorem i_141 : TabE Try.prog (141, t_141, false) := ⟨by kernel_rfl, fun h => by simp at h⟩
def t_142 : TyD := { und := TypeDesc.func #[40] #[35] false, size := 1, bytes := 8, zero := [Value.nilFunc], fl := false }
theorem i_142 : TabE Try.prog (142, t_142, false) := ⟨by kernel_rfl, fun h => by simp at h⟩
def t_143 : TyD := { und := TypeDesc.func #[66, 67, 35] #[35, 2] false, size := 1, bytes := 8, zero := [Value.nilFunc], fl := false }
theorem i_143 : TabE Try.prog (143, t_143, false) := ⟨by kernel_rfl, fun h => by simp at h⟩
def t_144 : TyD := { und := TypeDesc.func #[100, 101] #[35, 2] false, size := 1, bytes := 8, zero := [Value.nilFunc], fl := false }
theorem i_144 : TabE Try.prog (144, t_144, false) := ⟨by kernel_rfl, fun h => by simp at h⟩
def t_145 : TyD := { und := TypeDesc.func #[35, 35] #[53, 2] false, size := 1, bytes := 8, zero := [Value.nilFunc], fl := false }
theorem i_145 : TabE Try.prog (145, t_145, false) := ⟨by kernel_rfl, fun h => by simp at h⟩
def t_146 : TyD := { und := TypeDesc.func #[35, 2, 35, 2] #[53, 2] false, size := 1, bytes := 8, zero := [Value.nilFunc], fl := false }
theorem i_146 : TabE Try.prog (146, t_146, false) := ⟨by kernel_rfl, fun h => by simp at h⟩
def t_147 : TyD := { und := TypeDesc.func #[38, 89] #[4] false, size := 1, bytes := 8, zero := [Value.nilFunc], fl := false }
theorem i_147 : TabE Try.prog (147, t_147, false) := ⟨by kernel_rfl, fun h => by simp at h⟩
def t_148 : TyD := { und := TypeDesc.func #[100, 2] #[35, 2] false, size := 1, bytes := 8, zero := [Value.nilFunc], fl := false }
theorem i_148 : TabE Try.prog (148, t_148, false) := ⟨by kernel_rfl, fun h => by simp at h⟩
def t_149 : TyD := { und := TypeDesc.func #[100, 101, 35, 2] #[35, 2] false, size := 1, bytes := 8, zero := [Value.nilFunc], fl := false }
theorem i_149 : TabE Try.prog (149, t_149, false) := ⟨by kernel_rfl, fun h => by simp at h⟩
def t_150 : TyD := { und := TypeDesc.func #[42, 151] #[4] false, size := 1, bytes := 8, zero := [Value.nilFunc], fl := false }
theorem i_150 : TabE Try.prog (150, t_150, false) := ⟨by kernel_rfl, fun h => by simp at h⟩
def t_151 : TyD := { und := TypeDesc.func #[61] #[4] false, size := 1, bytes := 8, zero := [Value.nilFunc], fl := false }
theorem i_151 : TabE Try.prog (151, t_151, false) := ⟨by kernel_rfl, fun h => by simp at h⟩
def t_152 : TyD := { und := TypeDesc.func #[41] #[4] false, size := 1, bytes := 8, zero := [Value.nilFunc], fl := false }
theorem i_152 : TabE Try.prog (152, t_152, false) := ⟨by kernel_rfl, fun h => by simp at h⟩
def t_153 : TyD := { und := TypeDesc.func #[100] #[35] false, size := 1, bytes := 8, zero := [Value.nilFunc], fl := false }
theorem i_153 : TabE Try.prog (153, t_153, false) := ⟨by kernel_rfl, fun h => by simp at h⟩
def t_154 : TyD := { und := TypeDesc.func #[38, 89] #[3] false, size := 1, bytes := 8, zero := [Value.nilFunc], fl := false }
theorem i_154 : TabE Try.prog (154, t_154, false) := ⟨by kernel_rfl, fun h => by simp at h⟩
def t_156 : TyD := { und := TypeDesc.func #[100, 35] #[2, 35, 2] false, size := 1, bytes := 8, zero := [Value.nilFunc], fl := false }
theorem i_156 : TabE Try.prog (156, t_156, false) := ⟨by kernel_rfl, fun h => by simp at h⟩
def t_157 : TyD := { und := TypeDesc.func #[42, 151] #[3] false, size := 1, bytes := 8, zero := [Value.nilFunc], fl := false }
theorem i_157 : TabE Try.prog (157, t_157, false) := ⟨by kernel_rfl, fun h => by simp at h⟩
def t_158 : TyD := { und := TypeDesc.func #[] #[9] false, size := 1, bytes := 8, zero := [Value.nilFunc], fl := false }
theorem i_158 : TabE Try.prog (158, t_158, false) := ⟨by kernel_rfl, fun h => by simp at h⟩
def t_159 : TyD := { und := TypeDesc.struct #[{ name := "_interface", type := 17, offset := 0, embedded := false, tag := "", pkgPath := "runtime", byteOffset := 0 }, { name := "concrete", type := 17, offset := 1, embedded := false, tag := "", pkgPath := "runtime", byteOffset := 8 }, { name := "asserted", type := 17, offset := 2, embedded := false, tag := "", pkgPath := "runtime", byteOffset := 16 }, { name := "missingMethod", type := 9, offset := 3, embedded := false, tag := "", pkgPath := "runtime", byteOffset := 24 }], size := 4, bytes := 40, zero := [Value.pointer none, Value.pointer none, Value.pointer none, Value.string ⟨#[]⟩], fl := false }
theorem i_159 : TabE Try.prog (159, t_159, false) := ⟨by kernel_rfl, fun h => by simp at h⟩
def t_160 : TyD := { und := TypeDesc.struct #[{ name := "_interface", type := 17, offset := 0, embedded := false, tag := "", pkgPath := "runtime", byteOffset := 0 }, { name := "concrete", type := 17, offset := 1, embedded := false, tag := "", pkgPath := "runtime", byteOffset := 8 }, { name := "asserted", type := 17, offset := 2, embedded := false, tag := "", pkgPath := "runtime", byteOffset := 16 }, { name := "missingMethod", type := 9, offset := 3, embedded := false, tag := "", pkgPath := "runtime", byteOffset := 24 }], size := 4, bytes := 40, zero := [Value.pointer none, Value.pointer none, Value.pointer none, Value.string ⟨#[]⟩], fl := false }
theorem i_160 : TabE Try.prog (160, t_160, false) := ⟨by kernel_rfl, fun h => by simp at h⟩
def t_161 : TyD := { und := TypeDesc.array 0 16, size := 0, bytes := 0, zero := [], fl := false }
theorem i_161 : TabE Try.prog (161, t_161, false) := ⟨by kernel_rfl, fun h => by simp at h⟩
def t_162 : TyD := { und := TypeDesc.struct #[{ name := "_", type := 161, offset := 0, embedded := false, tag := "", pkgPath := "runtime", byteOffset := 0 }], size := 0, bytes := 0, zero := [], fl := false }
theorem i_162 : TabE Try.prog (162, t_162, false) := ⟨by kernel_rfl, fun h => by simp at h⟩
def t_163 : TyD := { und := TypeDesc.struct #[{ name := "_", type := 161, offset := 0, embedded := false, tag := "", pkgPath := "runtime", byteOffset := 0 }], size := 0, bytes := 0, zero := [], fl := false }
theorem i_163 : TabE Try.prog (163, t_163, false) := ⟨by kernel_rfl, fun h => by simp at h⟩
def t_164 : TyD := { und := TypeDesc.func #[] #[3] false, size := 1, bytes := 8, zero := [Value.nilFunc], fl := false }
theorem i_164 : TabE Try.prog (164, t_164, false) := ⟨by kernel_rfl, fun h => by simp at h⟩
def t_165 : TyD := { und := TypeDesc.int IntKind.u32, size := 1, bytes := 4, zero := [Value.int IntKind.u32 0], fl := true }
theorem i_165 : TabE Try.prog (165, t_165, false) := ⟨by kernel_rfl, fun h => by simp at h⟩
def t_166 : TyD := { und := TypeDesc.int IntKind.u8, size := 1, bytes := 1, zero := [Value.int IntKind.u8 0], fl := true }
theorem i_166 : TabE Try.prog (166, t_166, false) := ⟨by kernel_rfl, fun h => by simp at h⟩
def t_167 : TyD := { und := TypeDesc.int IntKind.u8, size := 1, bytes := 1, zero := [Value.int IntKind.u8 0], fl := true }
theorem i_167 : TabE Try.prog (167, t_167, false) := ⟨by kernel_rfl, fun h => by simp at h⟩
def t_168 : TyD := { und := TypeDesc.func #[175, 175] #[4] false, size := 1, bytes := 8, zero := [Value.nilFunc], fl := false }
theorem i_168 : TabE Try.prog (168, t_168, false) := ⟨by kernel_rfl, fun h => by simp at h⟩
def t_169 : TyD := { und := TypeDesc.pointer 5, size := 1, bytes := 8, zero := [Value.pointer none], fl := false }
theorem i_169 : TabE Try.prog (169, t_169, false) := ⟨by kernel_rfl, fun h => by simp at h⟩
def t_170 : TyD := { und := TypeDesc.int IntKind.i32, size := 1, bytes := 4, zero := [Value.int IntKind.i32 0], fl := true }
theorem i_170 : TabE Try.prog (170, t_170, false) := ⟨by kernel_rfl, fun h => by simp at h⟩
def t_171 : TyD := { und := TypeDesc.int IntKind.i32, size := 1, bytes := 4, zero := [Value.int IntKind.i32 0], fl := true }
theorem i_171 : TabE Try.prog (171, t_171, false) := ⟨by kernel_rfl, fun h => by simp at h⟩
def t_172 : TyD := { und := TypeDesc.struct #[{ name := "Size_", type := 12, offset := 0, embedded := false, tag := "", pkgPath := "", byteOffset := 0 }, { name := "PtrBytes", type := 12, offset := 1, embedded := false, tag := "", pkgPath := "", byteOffset := 8 }, { name := "Hash", type := 165, offset := 2, embedded := false, tag := "", pkgPath := "", byteOffset := 16 }, { name := "TFlag", type := 166, offset := 3, embedded := false, tag := "", pkgPath := "", byteOffset := 20 }, { name := "Align_", type := 5, offset := 4, embedded := false, tag := "", pkgPath := "", byteOffset := 21 }, { name := "FieldAlign_", type := 5, offset := 5, embedded := false, tag := "", pkgPath := "", byteOffset := 22 }, { name := "Kind_", type := 167, offset := 6, embedded := false, tag := "", pkgPath := "", byteOffset := 23 }, { name := "Equal", type := 168, offset := 7, embedded := false, tag := "", pkgPath := "", byteOffset := 24 }, { name := "GCData", type := 169, offset := 8, embedded := false, tag := "", pkgPath := "", byteOffset := 32 }, { name := "Str", type := 170, offset := 9, embedded := false, tag := "", pkgPath := "", byteOffset := 40 }, { name := "PtrToThis", type := 171, offset := 10, embedded := false, tag := "", pkgPath := "", byteOffset := 44 }], size := 11, bytes := 48, zero := [Value.int IntKind.u64 0, Value.int IntKind.u64 0, Value.int IntKind.u32 0, Value.int IntKind.u8 0, Value.int IntKind.u8 0, Value.int IntKind.u8 0, Value.int IntKind.u8 0, Value.nilFunc, Value.pointer none, Value.int IntKind.i32 0, Value.int IntKind.i32 0], fl := false }
theorem i_172 : TabE Try.prog (172, t_172, false) := ⟨by kernel_rfl, fun h => by simp at h⟩
def t_173 : TyD := { und := TypeDesc.struct #[{ name := "Size_", type := 12, offset := 0, embedded := false, tag := "", pkgPath := "", byteOffset := 0 }, { name := "PtrBytes", type := 12, offset := 1, embedded := false, tag := "", pkgPath := "", byteOffset := 8 }, { name := "Hash", type := 165, offset := 2, embedded := false, tag := "", pkgPath := "", byteOffset := 16 }, { name := "TFlag", type := 166, offset := 3, embedded := false, tag := "", pkgPath := "", byteOffset := 20 }, { name := "Align_", type := 5, offset := 4, embedded := false, tag := "", pkgPath := "", byteOffset := 21 }, { name := "FieldAlign_", type := 5, offset := 5, embedded := false, tag := "", pkgPath := "", byteOffset := 22 }, { name := "Kind_", type := 167, offset := 6, embedded := false, tag := "", pkgPath := "", byteOffset := 23 }, { name := "Equal", type := 168, offset := 7, embedded := false, tag := "", pkgPath := "", byteOffset := 24 }, { name := "GCData", type := 169, offset := 8, embedded := false, tag := "", pkgPath := "", byteOffset := 32 }, { name := "Str", type := 170, offset := 9, embedded := false, tag := "", pkgPath := "", byteOffset := 40 }, { name := "PtrToThis", type := 171, offset := 10, embedded := false, tag := "", pkgPath := "", byteOffset := 44 }], size := 11, bytes := 48, zero := [Value.int IntKind.u64 0, Value.int IntKind.u64 0, Value.int IntKind.u32 0, Value.int IntKind.u8 0, Value.int IntKind.u8 0, Value.int IntKind.u8 0, Value.int IntKind.u8 0, Value.nilFunc, Value.pointer none, Value.int IntKind.i32 0, Value.int IntKind.i32 0], fl := false }
theorem i_173 : TabE Try.prog (173, t_173, false) := ⟨by kernel_rfl, fun h => by simp at h⟩
def t_174 : TyD := { und := TypeDesc.func #[] #[2] false, size := 1, bytes := 8, zero := [Value.nilFunc], fl := false }
theorem i_174 : TabE Try.prog (174, t_174, false) := ⟨by kernel_rfl, fun h => by simp at h⟩
def t_175 : TyD := { und := TypeDesc.unsafePointer, size := 1, bytes := 8, zero := [Value.pointer none], fl := false }
theorem i_175 : TabE Try.prog (175, t_175, false) := ⟨by kernel_rfl, fun h => by simp at h⟩
def tyTab : List (Nat × TyD × Bool) := [(1, t_1, false), (2, t_2, false), (3, t_3, false), (4, t_4, false), (5, t_5, false), (6, t_6, false), (7, t_7, true), (8, t_8, true), (9, t_9, false), (10, t_10, false), (11, t_11, false), (12, t_12, false), (13, t_13, false), (14, t_14, false), (15, t_15, false), (16, t_16, false), (17, t_17, false), (18, t_18, false), (19, t_19, false), (21, t_21, false), (22, t_22, true), (23, t_23, true), (24, t_24, false), (25, t_25, true), (26, t_26, true), (27, t_27, true), (28, t_28, true), (29, t_29, false), (30, t_30, true), (31, t_31, true), (32, t_32, true), (33, t_33, true), (34, t_34, false), (35, t_35, true), (37, t_37, false), (38, t_38, false), (39, t_39, true), (40, t_40, true), (41, t_41, true), (42, t_42, false), (43, t_43, true), (44, t_44, true), (45, t_45, false), (46, t_46, true), (47, t_47, true), (48, t_48, false), (49, t_49, false), (50, t_50, false), (51, t_51, false), (52, t_52, true), (53, t_53, true), (54, t_54, true), (55, t_55, true), (57, t_57, false), (59, t_59, false), (60, t_60, true), (61, t_61, true), (62, t_62, false), (63, t_63, false), (64, t_64, false), (65, t_65, false), (66, t_66, false), (67, t_67, false), (68, t_68, false), (69, t_69, false), (70, t_70, false), (71, t_71, false), (72, t_72, false), (73, t_73, true), (74, t_74, true), (75, t_75, false), (76, t_76, false), (78, t_78, false), (80, t_80, false), (81, t_81, false), (82, t_82, false), (83, t_83, false), (84, t_84, false), (86, t_86, false), (87, t_87, false), (88, t_88, false), (89, t_89, false), (90, t_90, false), (91, t_91, false), (92, t_92, false), (93, t_93, true), (94, t_94, true), (95, t_95, false), (96, t_96, false), (97, t_97, false), (98, t_98, false), (99, t_99, false), (100, t_100, false), (101, t_101, false), (102, t_102, false), (103, t_103, false), (104, t_104, false), (105, t_105, false), (106, t_106, false), (108, t_108, false), (110, t_110, false), (111, t_111, false), (112, t_112, false), (113, t_113, false), (114, t_114, false), (115, t_115, false), (116, t_116, false), (117, t_117, false), (118, t_118, false), (119, t_119, false), (120, t_120, false), (121, t_121, false), (122, t_122, false), (123, t_123, false), (124, t_124, false), (125, t_125, false), (126, t_126, false), (127, t_127, false), (128, t_128, false), (129, t_129, false), (130, t_130, false), (131, t_131, false), (132, t_132, false), (133, t_133, false), (134, t_134, false), (136, t_136, false), (137, t_137, false), (138, t_138, false), (139, t_139, false), (141, t_141, false), (142, t_142, false), (143, t_143, false), (144, t_144, false), (145, t_145, false), (146, t_146, false), (147, t_147, false), (148, t_148, false), (149, t_149, false), (150, t_150, false), (151, t_151, false), (152, t_152, false), (153, t_153, false), (154, t_154, false), (156, t_156, false), (157, t_157, false), (158, t_158, false), (159, t_159, false), (160, t_160, false), (161, t_161, false), (162, t_162, false), (163, t_163, false), (164, t_164, false), (165, t_165, false), (166, t_166, false), (167, t_167, false), (168, t_168, false), (169, t_169, false), (170, t_170, false), (171, t_171, false), (172, t_172, false), (173, t_173, false), (174, t_174, false), (175, t_175, false)]
@[reducible] def T0 : Ty := lookT tyTab
@[reducible] def Q0 : Nat → Bool := lookQ tyTab
theorem tabOk : TabOk Try.prog T0 Q0 := tab_ok (l := tyTab) (⟨i_1, i_2, i_3, i_4, i_5, i_6, i_7, i_8, i_9, i_10, i_11, i_12, i_13, i_14, i_15, i_16, i_17, i_18, i_19, i_21, i_22, i_23, i_24, i_25, i_26, i_27, i_28, i_29, i_30, i_31, i_32, i_33, i_34, i_35, i_37, i_38, i_39, i_40, i_41, i_42, i_43, i_44, i_45, i_46, i_47, i_48, i_49, i_50, i_51, i_52, i_53, i_54, i_55, i_57, i_59, i_60, i_61, i_62, i_63, i_64, i_65, i_66, i_67, i_68, i_69, i_70, i_71, i_72, i_73, i_74, i_75, i_76, i_78, i_80, i_81, i_82, i_83, i_84, i_86, i_87, i_88, i_89, i_90, i_91, i_92, i_93, i_94, i_95, i_96, i_97, i_98, i_99, i_100, i_101, i_102, i_103, i_104, i_105, i_106, i_108, i_110, i_111, i_112, i_113, i_114, i_115, i_116, i_117, i_118, i_119, i_120, i_121, i_122, i_123, i_124, i_125, i_126, i_127, i_128, i_129, i_130, i_131, i_132, i_133, i_134, i_136, i_137, i_138, i_139, i_141, i_142, i_143, i_144, i_145, i_146, i_147, i_148, i_149, i_150, i_151, i_152, i_153, i_154, i_156, i_157, i_158, i_159, i_160, i_161, i_162, i_163, i_164, i_165, i_166, i_167, i_168, i_169, i_170, i_171, i_172, i_173, i_174, i_175, trivial⟩)
end Go.Proofs.Ytbmejhabgoimeaa.Eng
set_option linter.unusedVariables false
set_option linter.unusedSimpArgs false
namespace Go.Proofs.Ytbmejhabgoimeaa.Eng
open Go Go.RowKit
set_option maxRecDepth 100000
theorem tmod_lt {a b : Int} (h : b ≠ 0) : (a.tmod b).natAbs < b.natAbs := by
  rw [Int.natAbs_tmod]; exact Nat.mod_lt _ (by omega)
theorem gcd_tmod {a b : Int} : Int.gcd b (a.tmod b) = Int.gcd a b := by
  simp only [Int.gcd, Int.natAbs_tmod]
  rw [Nat.gcd_comm, ← Nat.gcd_rec, Nat.gcd_comm]
theorem seg_get {α : Type} {l : List α} {s n i : Nat} {a : α} (h : (seg l s n)[i]? = some a) : l[s + i]? = some a ∧ i < n := by
  unfold seg at h
  rw [List.getElem?_take] at h
  split at h
  · rw [List.getElem?_drop] at h; exact ⟨h, by assumption⟩
  · simp at h
theorem seg_len {α : Type} {l : List α} {s n : Nat} (h : s + n ≤ l.length) : (seg l s n).length = n := by
  simp [seg]; omega
theorem atL_i {α : Type} {l : List α} {s n i : Nat} {a : α} {K : α → Prop} (ha : (seg l s n)[i]? = some a) (h : K a) : atL l (s + ((i : Nat) : Int).toNat) K :=
  atL_iff.2 ⟨a, by simpa using (seg_get ha).1, h⟩
theorem atL_n {α : Type} {l : List α} {i : Nat} {a : α} {K : α → Prop} (ha : l[i]? = some a) (h : K a) : atL l ((i : Nat) : Int).toNat K :=
  atL_iff.2 ⟨a, by simpa using ha, h⟩
theorem atL_p {α : Type} {l : List α} {i : Nat} {a : α} {K : α → Prop} (ha : l[i]? = some a) (h : K a) : atL l i K := atL_iff.2 ⟨a, ha, h⟩
theorem seg_full {α : Type} {l : List α} {n : Nat} (h : l.length = n) : seg l 0 n = l := by simp [seg, ← h]
theorem get_some {α : Type} {l : List α} {i : Nat} (h : i < l.length) : ∃ a, l[i]? = some a := ⟨l[i], by simp [h]⟩
/-- The first place where p holds, or -1. -/
def findI {α : Type} (p : α → Bool) (l : List α) : Int := if l.any p = true then (l.findIdx p : Int) else -1
theorem findI_none {α : Type} {p : α → Bool} {l : List α} (h : ∀ (j : Nat) a, l[j]? = some a → p a = false) : findI p l = -1 := by
  unfold findI
  rw [if_neg]
  rw [List.any_eq_true]
  rintro ⟨a, ha, hp⟩
  obtain ⟨j, hj⟩ := List.getElem?_of_mem ha
  rw [h j a hj] at hp; simp at hp
theorem findI_some {α : Type} {p : α → Bool} {l : List α} {i : Nat} {a : α} (ha : l[i]? = some a) (hp : p a = true) (h : ∀ (j : Nat) a, j < i → l[j]? = some a → p a = false) : findI p l = i := by
  unfold findI
  rw [if_pos (List.any_eq_true.2 ⟨a, List.mem_of_getElem? ha, hp⟩)]
  obtain ⟨hi, e⟩ := List.getElem?_eq_some_iff.1 ha
  have : l.findIdx p = i := by
    rw [List.findIdx_eq hi]
    exact ⟨by rw [e]; exact hp, fun j hj => h j _ hj (by simp)⟩
  rw [this]
theorem findI_any {α : Type} (p : α → Bool) (l : List α) : decide (0 ≤ findI p l) = l.any p := by
  unfold findI
  split
  · rename_i h; rw [h]; simp
  · rename_i h
    have : l.any p = false := by simpa using h
    rw [this]; rfl
theorem app_take {α : Type} {D : List α} {i : Nat} {w : α} (h : D[i]? = some w) : seg (D.take i) 0 i ++ seg [w] 0 1 = D.take (i + 1) := by
  have hl := (List.getElem?_eq_some_iff.1 h).1
  rw [seg_full (by rw [List.length_take]; omega), List.take_add_one, h]; rfl
/-- One more place where something holds. -/
theorem upto_step {α : Type} {p : α → Prop} {L : List α} {i : Nat} {a : α} (ha : L[i]? = some a) (hp : p a) (h : ∀ (j : Nat) b, j < i → L[j]? = some b → p b) : ∀ (j : Nat) b, j < i + 1 → L[j]? = some b → p b := fun j b hj hb => by
  by_cases e : j < i
  · exact h j b e hb
  · obtain rfl : j = i := by omega
    rw [ha] at hb; obtain rfl := Option.some.inj hb; exact hp
/-- Tests whose outcome is known. -/
theorem splitT_of {b : Bool} {A B : Prop} (h : b = true) (k : A) : splitB b A B := by subst h; exact splitT k
theorem splitF_of {b : Bool} {A B : Prop} (h : b = false) (k : B) : splitB b A B := by subst h; exact splitF k
theorem seg_take {α : Type} {l : List α} {s m i : Nat} (hi : i ≤ m) : seg l s i = (seg l s m).take i := by
  unfold seg; rw [List.take_take]; congr 1; omega
theorem any_take {α : Type} {p : α → Bool} {L : List α} {i j : Nat} {b : α} (hb : L[j]? = some b) (hj : j < i) (h : p b = true) : (L.take i).any p = true := by
  rw [List.any_eq_true]
  exact ⟨b, List.mem_of_getElem? (i := j) (by rw [List.getElem?_take, if_pos hj]; exact hb), h⟩
theorem any_no {α : Type} {p : α → Bool} {L : List α} (h : ∀ (k : Nat) a, L[k]? = some a → p a = false) : L.any p = false := by
  rw [List.any_eq_false]
  intro a ha
  obtain ⟨j, hj⟩ := List.getElem?_of_mem ha
  rw [h j a hj]; simp
/-- All elements with their places. -/
def allI {α : Type} (d : α) (f : Nat → α → Bool) (E : List α) : Bool := (List.range E.length).all fun k : Nat => f k ((E[k]?).getD d)
theorem allI_yes {α : Type} {d : α} {f : Nat → α → Bool} {E : List α} {n : Nat} (hn : E.length = n) (h : ∀ (k : Nat) a, k < n → E[k]? = some a → f k a = true) : allI d f E = true := by
  unfold allI
  rw [List.all_eq_true]
  intro k hk
  rw [List.mem_range] at hk
  obtain ⟨a, ha⟩ : ∃ a, E[k]? = some a := ⟨E[k], by simp [hk]⟩
  rw [ha]; exact h k a (by omega) ha
theorem allI_no {α : Type} {d : α} {f : Nat → α → Bool} {E : List α} {k : Nat} {a : α} (ha : E[k]? = some a) (h : f k a = false) : allI d f E = false := by
  unfold allI
  rw [List.all_eq_false]
  have := (List.getElem?_eq_some_iff.1 ha).1
  exact ⟨k, List.mem_range.2 this, by rw [ha]; simp [h]⟩
theorem allI_at {α : Type} {d : α} {f : Nat → α → Bool} {E : List α} (h : allI d f E = true) {k : Nat} {a : α} (ha : E[k]? = some a) : f k a = true := by
  unfold allI at h
  rw [List.all_eq_true] at h
  have := h k (List.mem_range.2 (List.getElem?_eq_some_iff.1 ha).1)
  rwa [ha] at this
theorem allI_iff {α : Type} {d : α} {f : Nat → α → Bool} {E : List α} : allI d f E = true ↔ ∀ (k : Nat) a, E[k]? = some a → f k a = true :=
  ⟨fun h k a ha => allI_at h ha, fun h => allI_yes rfl fun k a _ ha => h k a ha⟩
theorem allI_snoc {α : Type} {d : α} {f : Nat → α → Bool} {L : List α} {i : Nat} {a : α} (ha : L[i]? = some a) : allI d f (L.take (i + 1)) = (allI d f (L.take i) && f i a) := by
  rw [Bool.eq_iff_iff, Bool.and_eq_true, allI_iff, allI_iff]
  constructor
  · intro h
    refine ⟨fun k b hb => h k b ?_, h i a (by rw [List.getElem?_take, if_pos (by omega)]; exact ha)⟩
    rw [List.getElem?_take] at hb ⊢
    split at hb
    · rw [if_pos (by omega)]; exact hb
    · simp at hb
  · rintro ⟨h1, h2⟩ k b hb
    rw [List.getElem?_take] at hb
    split at hb
    · by_cases e : k = i
      · subst e; rw [ha] at hb; obtain rfl := Option.some.inj hb; exact h2
      · exact h1 k b (by rw [List.getElem?_take, if_pos (by omega)]; exact hb)
    · simp at hb
theorem upto_step2 {α : Type} {p : Nat → α → Prop} {L : List α} {i : Nat} {a : α} (ha : L[i]? = some a) (hp : p i a) (h : ∀ (j : Nat) b, j < i → L[j]? = some b → p j b) : ∀ (j : Nat) b, j < i + 1 → L[j]? = some b → p j b := fun j b hj hb => by
  by_cases e : j < i
  · exact h j b e hb
  · obtain rfl : j = i := by omega
    rw [ha] at hb; obtain rfl := Option.some.inj hb; exact hp
def s_within : Spec := fun args S => match args, S with
  | [.int .i64 n, .int .i64 a, .int .i64 b], [] => ⟨True, .bool (decide (a ≤ n ∧ n ≤ b)), []⟩
  | _, _ => noSpec
theorem ok_within : SpecOk Try.prog 71 s_within := by
  intro args S h; unfold s_within at h ⊢; (split at h <;> first | exact False.elim h | skip)
  dsimp only at h ⊢
  refine funW tabOk (E := []) trivial [] (k := 0) (fn := Try.f71) rfl rfl rfl rfl rfl rfl ?_
  (repeat' ((try (conv => whnf)); first | (with_reducible first | refine And.intro ?_ ?_ | refine WX.of ?_) | exact zc | ((with_reducible refine VC.mk ?_); exact zw) | (with_reducible first | refine splitT ?_ | refine splitF ?_) | ((with_reducible refine splitM.mk (fun hsm => ?_) (fun hsm => ?_)) <;> (try exact zx)) | ((with_reducible refine splitB.mk (fun h => ?_) (fun h => ?_)) <;> (try simp only [zs, ne_eq] at h) <;> (try simp (disch := omega) only [w64] at h) <;> (try exact zx)) | (with_reducible intro hz; (try exact absurd hz (Nat.succ_ne_zero _)))))
  all_goals (first | exact ⟨rfl⟩ | (refine ⟨?_⟩; simp_all; done) | (refine ⟨?_⟩; simp_all; omega))
theorem ok_l00In : SpecOk Try.prog 78 s_within := by
  intro args S h; unfold s_within at h ⊢; (split at h <;> first | exact False.elim h | skip)
  dsimp only at h ⊢
  refine funW tabOk (E := []) trivial [] (k := 0) (fn := Try.f78) rfl rfl rfl rfl rfl rfl ?_
  (repeat' ((try (conv => whnf)); first | (with_reducible first | refine And.intro ?_ ?_ | refine WX.of ?_) | exact zc | ((with_reducible refine VC.mk ?_); exact zw) | (with_reducible first | refine splitT ?_ | refine splitF ?_) | ((with_reducible refine splitM.mk (fun hsm => ?_) (fun hsm => ?_)) <;> (try exact zx)) | ((with_reducible refine splitB.mk (fun h => ?_) (fun h => ?_)) <;> (try simp only [zs, ne_eq] at h) <;> (try simp (disch := omega) only [w64] at h) <;> (try exact zx)) | (with_reducible intro hz; (try exact absurd hz (Nat.succ_ne_zero _)))))
  all_goals (first | exact ⟨rfl⟩ | (refine ⟨?_⟩; simp_all; done) | (refine ⟨?_⟩; simp_all; omega))
/-- The sizes of all elements. -/
def tot {α : Type} (f : α → Nat) (l : List α) : Nat := (l.map f).sum
def s_gcd : Spec := fun args S => match args, S with
  | [.int .i64 a, .int .i64 b], [] => ⟨-9223372036854775808 < a ∧ a < 9223372036854775808 ∧ -9223372036854775808 < b ∧ b < 9223372036854775808, .int .i64 (Int.gcd a b), []⟩
  | _, _ => noSpec
theorem ok_gcd : SpecOk Try.prog 72 s_gcd := by
  intro args S h; unfold s_gcd at h ⊢; (split at h <;> first | exact False.elim h | skip)
  dsimp only at h ⊢
  rename_i a b
  refine funW tabOk (E := []) trivial [] (k := 0) (fn := Try.f72) rfl rfl rfl rfl rfl rfl ?_
  (repeat' ((try (conv => whnf)); first | (with_reducible first | refine And.intro ?_ ?_ | refine WX.of ?_) | exact zc | ((with_reducible refine VC.mk ?_); exact zw) | (with_reducible first | refine splitT ?_ | refine splitF ?_) | ((with_reducible refine splitM.mk (fun hsm => ?_) (fun hsm => ?_)) <;> (try exact zx)) | ((with_reducible refine splitB.mk (fun h => ?_) (fun h => ?_)) <;> (try simp only [zs, ne_eq] at h) <;> (try simp (disch := omega) only [w64] at h) <;> (try exact zx)) | (with_reducible intro hz; (try exact absurd hz (Nat.succ_ne_zero _)))))
  refine loopW tabOk (E := []) trivial [] (σ := Int × Int) (fun s => [(0, .int .i64 s.1), (1, .int .i64 s.2)]) (fun _ => []) (fun s => s.2.natAbs) (fun s => Int.gcd s.1 s.2 = Int.gcd a b ∧ -9223372036854775808 < s.1 ∧ s.1 < 9223372036854775808 ∧ -9223372036854775808 < s.2 ∧ s.2 < 9223372036854775808) (a, b) ⟨rfl, h⟩ ?_ ?_
  · (repeat' ((try (conv => whnf)); first | (with_reducible first | refine And.intro ?_ ?_ | refine WX.of ?_) | exact zc | ((with_reducible refine VC.mk ?_); exact zw) | (with_reducible first | refine splitT ?_ | refine splitF ?_) | ((with_reducible refine splitM.mk (fun hsm => ?_) (fun hsm => ?_)) <;> (try exact zx)) | ((with_reducible refine splitB.mk (fun h => ?_) (fun h => ?_)) <;> (try simp only [zs, ne_eq] at h) <;> (try simp (disch := omega) only [w64] at h) <;> (try exact zx)) | (with_reducible intro hz; (try exact absurd hz (Nat.succ_ne_zero _)))))
  · rintro ⟨x, y⟩ ⟨hg, hr⟩
    dsimp only at hg hr
    (repeat' ((try (conv => whnf)); first | (with_reducible first | refine And.intro ?_ ?_ | refine WX.of ?_) | exact zc | ((with_reducible refine VC.mk ?_); exact zw) | (with_reducible first | refine splitT ?_ | refine splitF ?_) | ((with_reducible refine splitM.mk (fun hsm => ?_) (fun hsm => ?_)) <;> (try exact zx)) | ((with_reducible refine splitB.mk (fun h => ?_) (fun h => ?_)) <;> (try simp only [zs, ne_eq] at h) <;> (try simp (disch := omega) only [w64] at h) <;> (try exact zx)) | (with_reducible intro hz; (try exact absurd hz (Nat.succ_ne_zero _)))))
    · have := tmod_lt (a := x) h
      refine ⟨(y, x.tmod y), this, ⟨by rw [← hg]; exact gcd_tmod, ?_⟩, ?_⟩
      · dsimp only; omega
      · (repeat' ((try (conv => whnf)); first | (with_reducible first | refine And.intro ?_ ?_ | refine WX.of ?_) | exact zc | ((with_reducible refine VC.mk ?_); exact zw) | (with_reducible first | refine splitT ?_ | refine splitF ?_) | ((with_reducible refine splitM.mk (fun hsm => ?_) (fun hsm => ?_)) <;> (try exact zx)) | ((with_reducible refine splitB.mk (fun h => ?_) (fun h => ?_)) <;> (try simp only [zs, ne_eq] at h) <;> (try simp (disch := omega) only [w64] at h) <;> (try exact zx)) | (with_reducible intro hz; (try exact absurd hz (Nat.succ_ne_zero _)))))
    · subst h
      simp at hg
      dsimp only
      rw [w64 (by omega)]
      refine ⟨?_⟩
      rw [← hg]
      congr 1
      split <;> omega
def s_abs : Spec := fun args S => match args, S with
  | [.int .i64 n], [] => ⟨-9223372036854775808 < n ∧ n < 9223372036854775808, .int .i64 (n.natAbs : Int), []⟩
  | _, _ => noSpec
theorem ok_l01Abs : SpecOk Try.prog 80 s_abs := by
  intro args S h; unfold s_abs at h ⊢; (split at h <;> first | exact False.elim h | skip)
  dsimp only at h ⊢
  refine funW tabOk (E := []) trivial [] (k := 0) (fn := Try.f80) rfl rfl rfl rfl rfl rfl ?_
  (repeat' ((try (conv => whnf)); first | (with_reducible first | refine And.intro ?_ ?_ | refine WX.of ?_) | exact zc | ((with_reducible refine VC.mk ?_); exact zw) | (with_reducible first | refine splitT ?_ | refine splitF ?_) | ((with_reducible refine splitM.mk (fun hsm => ?_) (fun hsm => ?_)) <;> (try exact zx)) | ((with_reducible refine splitB.mk (fun h => ?_) (fun h => ?_)) <;> (try simp only [zs, ne_eq] at h) <;> (try simp (disch := omega) only [w64] at h) <;> (try exact zx)) | (with_reducible intro hz; (try exact absurd hz (Nat.succ_ne_zero _)))))
def s_gcdN : Spec := fun args S => match args, S with
  | [.int .i64 a, .int .i64 b], [] => ⟨0 ≤ a ∧ a < 9223372036854775808 ∧ 0 ≤ b ∧ b < 9223372036854775808, .int .i64 (Int.gcd a b), []⟩
  | _, _ => noSpec
theorem ok_l01Gcd : SpecOk Try.prog 106 s_gcdN := by
  intro args S h; unfold s_gcdN at h ⊢; (split at h <;> first | exact False.elim h | skip)
  dsimp only at h ⊢
  rename_i a b
  refine funW tabOk (E := []) trivial [] (k := 0) (fn := Try.f106) rfl rfl rfl rfl rfl rfl ?_
  (repeat' ((try (conv => whnf)); first | (with_reducible first | refine And.intro ?_ ?_ | refine WX.of ?_) | exact zc | ((with_reducible refine VC.mk ?_); exact zw) | (with_reducible first | refine splitT ?_ | refine splitF ?_) | ((with_reducible refine splitM.mk (fun hsm => ?_) (fun hsm => ?_)) <;> (try exact zx)) | ((with_reducible refine splitB.mk (fun h => ?_) (fun h => ?_)) <;> (try simp only [zs, ne_eq] at h) <;> (try simp (disch := omega) only [w64] at h) <;> (try exact zx)) | (with_reducible intro hz; (try exact absurd hz (Nat.succ_ne_zero _)))))
  refine loopW tabOk (E := []) trivial [] (σ := Int × Int) (fun s => [(0, .int .i64 s.1), (1, .int .i64 s.2)]) (fun _ => []) (fun s => s.2.natAbs) (fun s => Int.gcd s.1 s.2 = Int.gcd a b ∧ 0 ≤ s.1 ∧ s.1 < 9223372036854775808 ∧ 0 ≤ s.2 ∧ s.2 < 9223372036854775808) (a, b) ⟨rfl, h⟩ ?_ ?_
  · (repeat' ((try (conv => whnf)); first | (with_reducible first | refine And.intro ?_ ?_ | refine WX.of ?_) | exact zc | ((with_reducible refine VC.mk ?_); exact zw) | (with_reducible first | refine splitT ?_ | refine splitF ?_) | ((with_reducible refine splitM.mk (fun hsm => ?_) (fun hsm => ?_)) <;> (try exact zx)) | ((with_reducible refine splitB.mk (fun h => ?_) (fun h => ?_)) <;> (try simp only [zs, ne_eq] at h) <;> (try simp (disch := omega) only [w64] at h) <;> (try exact zx)) | (with_reducible intro hz; (try exact absurd hz (Nat.succ_ne_zero _)))))
  · rintro ⟨x, y⟩ ⟨hg, hr⟩
    dsimp only at hg hr
    (repeat' ((try (conv => whnf)); first | (with_reducible first | refine And.intro ?_ ?_ | refine WX.of ?_) | exact zc | ((with_reducible refine VC.mk ?_); exact zw) | (with_reducible first | refine splitT ?_ | refine splitF ?_) | ((with_reducible refine splitM.mk (fun hsm => ?_) (fun hsm => ?_)) <;> (try exact zx)) | ((with_reducible refine splitB.mk (fun h => ?_) (fun h => ?_)) <;> (try simp only [zs, ne_eq] at h) <;> (try simp (disch := omega) only [w64] at h) <;> (try exact zx)) | (with_reducible intro hz; (try exact absurd hz (Nat.succ_ne_zero _)))))
    · have := tmod_lt (a := x) h
      have h2 := Int.tmod_nonneg y hr.1
      refine ⟨(y, x.tmod y), this, ⟨by rw [← hg]; exact gcd_tmod, ?_⟩, ?_⟩
      · dsimp only; omega
      · (repeat' ((try (conv => whnf)); first | (with_reducible first | refine And.intro ?_ ?_ | refine WX.of ?_) | exact zc | ((with_reducible refine VC.mk ?_); exact zw) | (with_reducible first | refine splitT ?_ | refine splitF ?_) | ((with_reducible refine splitM.mk (fun hsm => ?_) (fun hsm => ?_)) <;> (try exact zx)) | ((with_reducible refine splitB.mk (fun h => ?_) (fun h => ?_)) <;> (try simp only [zs, ne_eq] at h) <;> (try simp (disch := omega) only [w64] at h) <;> (try exact zx)) | (with_reducible intro hz; (try exact absurd hz (Nat.succ_ne_zero _)))))
    · subst h
      simp at hg
      refine ⟨?_⟩
      dsimp only
      rw [← hg]
      congr 1
      omega
/-- A valid fraction. -/
def fOk (p q : Int) : Bool := decide (1 ≤ q ∧ q ≤ 1000000000 ∧ -1000000000 ≤ p ∧ p ≤ 1000000000 ∧ Int.gcd p q = 1)
theorem fOk_iff {p q : Int} : fOk p q = true ↔ 1 ≤ q ∧ q ≤ 1000000000 ∧ -1000000000 ≤ p ∧ p ≤ 1000000000 ∧ Int.gcd p q = 1 := by simp [fOk]
def s_fOk : Spec := fun args S => match args, S with
  | [.agg [.int .i64 p, .int .i64 q]], [] => ⟨True, .bool (fOk p q), []⟩
  | _, _ => noSpec
theorem gcd_abs (p q : Int) : Int.gcd (p.natAbs : Int) q = Int.gcd p q := by simp [Int.gcd]
theorem ok_ValidFrac : SpecOk Try.prog 37 s_fOk := by
  intro args S h; unfold s_fOk at h ⊢; (split at h <;> first | exact False.elim h | skip)
  dsimp only at h ⊢
  refine funW tabOk (E := [(71, s_within), (72, s_gcd)]) ⟨ok_within, ok_gcd, trivial⟩ [] (k := 0) (fn := Try.f37) rfl rfl rfl rfl rfl rfl ?_
  (repeat' ((try (conv => whnf)); first | (with_reducible first | refine And.intro ?_ ?_ | refine WX.of ?_) | exact zc | ((with_reducible refine VC.mk ?_); exact zw) | (with_reducible first | refine splitT ?_ | refine splitF ?_) | ((with_reducible refine splitM.mk (fun hsm => ?_) (fun hsm => ?_)) <;> (try exact zx)) | ((with_reducible refine splitB.mk (fun h => ?_) (fun h => ?_)) <;> (try simp only [zs, ne_eq] at h) <;> (try simp (disch := omega) only [w64] at h) <;> (try exact zx)) | (with_reducible intro hz; (try exact absurd hz (Nat.succ_ne_zero _)))))
  all_goals (refine ⟨congrArg SV.bool ?_⟩; (try dsimp only); (try simp (disch := omega) only [w64]); rw [Bool.eq_iff_iff]; try (simp [fOk]); try omega)
theorem ok_l01Ok : SpecOk Try.prog 79 s_fOk := by
  intro args S h; unfold s_fOk at h ⊢; (split at h <;> first | exact False.elim h | skip)
  dsimp only at h ⊢
  refine funW tabOk (E := [(78, s_within), (106, s_gcdN), (80, s_abs)]) ⟨ok_l00In, ok_l01Gcd, ok_l01Abs, trivial⟩ [(1, [(13, 2)])] (k := 0) (fn := Try.f79) rfl rfl rfl rfl rfl rfl ?_
  (repeat' ((try (conv => whnf)); first | (with_reducible first | refine And.intro ?_ ?_ | refine WX.of ?_) | exact zc | ((with_reducible refine VC.mk ?_); exact zw) | (with_reducible first | refine splitT ?_ | refine splitF ?_) | ((with_reducible refine splitM.mk (fun hsm => ?_) (fun hsm => ?_)) <;> (try exact zx)) | ((with_reducible refine splitB.mk (fun h => ?_) (fun h => ?_)) <;> (try simp only [zs, ne_eq] at h) <;> (try simp (disch := omega) only [w64] at h) <;> (try exact zx)) | (with_reducible intro hz; (try exact absurd hz (Nat.succ_ne_zero _)))))
  all_goals (refine ⟨congrArg SV.bool ?_⟩; (try dsimp only); (try simp (disch := omega) only [w64]); rw [Bool.eq_iff_iff]; try (simp [fOk, gcd_abs]); try omega)
/-- The reduced fraction. -/
def redG (p q : Int) : Int := (Int.gcd p q : Int)
def redP (p q : Int) : Int := if q < 0 then -(p / redG p q) else p / redG p q
def redQ (p q : Int) : Int := if q < 0 then -(q / redG p q) else q / redG p q
def redOk (p q : Int) : Bool := fOk (redP p q) (redQ p q)
theorem redG_pos {p q : Int} (h : q ≠ 0) : 0 < redG p q := by
  unfold redG
  have : 0 < Int.gcd p q := Int.gcd_pos_of_ne_zero_right _ h
  omega
theorem redG_le {p q M : Int} (h : q ≠ 0) (hq : -M ≤ q ∧ q ≤ M) : redG p q ≤ M := by
  unfold redG
  have := Nat.le_of_dvd (by omega) (Nat.gcd_dvd_right p.natAbs q.natAbs)
  have e : Int.gcd p q = Nat.gcd p.natAbs q.natAbs := rfl
  omega
theorem ediv_small {p g M : Int} (hg : 0 < g) (h : -M ≤ p ∧ p ≤ M) : -M ≤ p / g ∧ p / g ≤ M := by
  have h0 : 0 ≤ M := by omega
  refine ⟨?_, ?_⟩
  · rw [Int.le_ediv_iff_mul_le hg]
    have : M ≤ M * g := by have := Int.mul_le_mul_of_nonneg_left (show 1 ≤ g by omega) h0; omega
    rw [Int.neg_mul]; omega
  · have := Int.ediv_le_ediv hg h.2
    have := Int.ediv_le_self g h0
    omega
theorem red_p {p q : Int} : p.tdiv (redG p q) = p / redG p q := Int.tdiv_eq_ediv_of_dvd (Int.gcd_dvd_left ..)
theorem red_q {p q : Int} : q.tdiv (redG p q) = q / redG p q := Int.tdiv_eq_ediv_of_dvd (Int.gcd_dvd_right ..)
theorem red_np {p q : Int} : (-p).tdiv (redG p q) = -(p / redG p q) := by rw [Int.neg_tdiv, red_p]
theorem red_nq {p q : Int} : (-q).tdiv (redG p q) = -(q / redG p q) := by rw [Int.neg_tdiv, red_q]
theorem red_bound {p q : Int} (h : q ≠ 0) (hp : -9223372036854775807 ≤ p ∧ p ≤ 9223372036854775807) (hq : -9223372036854775807 ≤ q ∧ q ≤ 9223372036854775807) :
    (-9223372036854775807 ≤ p / redG p q ∧ p / redG p q ≤ 9223372036854775807) ∧ (-9223372036854775807 ≤ q / redG p q ∧ q / redG p q ≤ 9223372036854775807) :=
  ⟨ediv_small (redG_pos h) hp, ediv_small (redG_pos h) hq⟩
/-- The sign of the reduced denominator. -/
theorem red_sign {p q : Int} (h : q ≠ 0) : (q / redG p q < 0 ↔ q < 0) := by
  have hg := redG_pos (p := p) h
  constructor
  · intro h1
    have := Int.ediv_mul_cancel (a := q) (b := redG p q) (Int.gcd_dvd_right ..)
    have h2 : q / redG p q * redG p q < 0 := Int.mul_neg_of_neg_of_pos h1 hg
    omega
  · intro h1
    have := Int.ediv_mul_cancel (a := q) (b := redG p q) (Int.gcd_dvd_right ..)
    apply Classical.byContradiction; intro h2
    have h3 : 0 ≤ q / redG p q * redG p q := Int.mul_nonneg (by omega) (by omega)
    omega
def s_red : Spec := fun args S => match args, S with
  | [.int .i64 p, .int .i64 q], [] => ⟨q ≠ 0 ∧ (-9223372036854775807 ≤ p ∧ p ≤ 9223372036854775807) ∧ (-9223372036854775807 ≤ q ∧ q ≤ 9223372036854775807), .tup [.agg [.int .i64 (if redOk p q = true then redP p q else 0), .int .i64 (if redOk p q = true then redQ p q else 0)], .int .i64 (if redOk p q = true then 0 else 3)], []⟩
  | _, _ => noSpec
theorem ok_l01Reduced : SpecOk Try.prog 87 s_red := by
  intro args S h; unfold s_red at h ⊢; (split at h <;> first | exact False.elim h | skip)
  dsimp only at h ⊢
  rename_i p q
  obtain ⟨h0, hp, hq⟩ := h
  have hg := redG_pos (p := p) h0
  have hgl := redG_le (p := p) h0 hq
  have hb := red_bound h0 hp hq
  have hs := red_sign (p := p) h0
  have e : (Int.gcd (p.natAbs : Int) (q.natAbs : Int) : Int) = redG p q := by simp [Int.gcd, redG]
  refine funW tabOk (E := [(79, s_fOk), (106, s_gcdN), (80, s_abs)]) ⟨ok_l01Ok, ok_l01Gcd, ok_l01Abs, trivial⟩ [] (k := 0) (fn := Try.f87) rfl rfl rfl rfl rfl rfl ?_
  (repeat' ((try (conv => whnf)); first | (with_reducible first | refine And.intro ?_ ?_ | refine WX.of ?_) | exact zc | ((with_reducible refine VC.mk ?_); exact zw) | (with_reducible first | refine splitT ?_ | refine splitF ?_) | ((with_reducible refine splitM.mk (fun hsm => ?_) (fun hsm => ?_)) <;> (try exact zx)) | ((with_reducible refine splitB.mk (fun h => ?_) (fun h => ?_)) <;> (try simp only [zs, ne_eq] at h) <;> (try simp (disch := omega) only [w64] at h) <;> (try exact zx)) | (with_reducible intro hz; (try exact absurd hz (Nat.succ_ne_zero _)))))
  all_goals
    rename_i hq'
    simp (disch := omega) only [e, red_p, red_q, w64, Int.zero_sub] at h hq' ⊢
    first | rw [hs] at hq' | (rw [← Int.not_lt, hs] at hq')
    refine ⟨?_⟩
    simp [redOk, redP, redQ, h, hq']
/-- What fracOf answers. -/
def s_fracOf : Spec := fun args S => match args, S with
  | [.int .i64 p, .int .i64 q], [] => ⟨q ≠ 0 ∧ (-9223372036854775807 ≤ p ∧ p ≤ 9223372036854775807) ∧ (-9223372036854775807 ≤ q ∧ q ≤ 9223372036854775807), .tup [.agg [.int .i64 (if redOk p q = true then redP p q else 0), .int .i64 (if redOk p q = true then redQ p q else 0)], .bool (redOk p q)], []⟩
  | _, _ => noSpec
theorem redG_neg (p q : Int) : (Int.gcd (-p) (-q) : Int) = redG p q := by simp [redG]
theorem ok_fracOf : SpecOk Try.prog 90 s_fracOf := by
  intro args S h; unfold s_fracOf at h ⊢; (split at h <;> first | exact False.elim h | skip)
  dsimp only at h ⊢
  rename_i p q
  obtain ⟨h0, hp, hq⟩ := h
  have hg := redG_pos (p := p) h0
  have hgl := redG_le (p := p) h0 hq
  have hb := red_bound h0 hp hq
  have hs := red_sign (p := p) h0
  have e : (Int.gcd p q : Int) = redG p q := rfl
  have e2 := redG_neg p q
  refine funW tabOk (E := [(37, s_fOk), (72, s_gcd)]) ⟨ok_ValidFrac, ok_gcd, trivial⟩ [] (k := 0) (fn := Try.f90) rfl rfl rfl rfl rfl rfl ?_
  (repeat' ((try (conv => whnf)); first | (with_reducible first | refine And.intro ?_ ?_ | refine WX.of ?_) | exact zc | ((with_reducible refine VC.mk ?_); exact zw) | ((with_reducible refine VC.mk ?_); simp (disch := omega) only [w64, Int.zero_sub, e, e2]; omega) | (with_reducible first | refine splitT ?_ | refine splitF ?_) | ((with_reducible refine splitM.mk (fun hsm => ?_) (fun hsm => ?_)) <;> (try exact zx)) | ((with_reducible refine splitB.mk (fun h => ?_) (fun h => ?_)) <;> (try simp only [zs, ne_eq] at h) <;> (try simp (disch := omega) only [w64] at h) <;> (try exact zx)) | (with_reducible intro hz; (try exact absurd hz (Nat.succ_ne_zero _)))))
  all_goals
    rename_i hq'
    simp (disch := omega) only [e, e2, red_p, red_q, red_np, red_nq, w64, Int.zero_sub] at h ⊢
    refine ⟨?_⟩
    first | (simp [redOk, redP, redQ, h, hq']; done) | simp [redOk, redP, redQ, h, show ¬ q < 0 by omega]
/-- What told answers: 0 where it is no valid fraction. -/
def tolP (p q : Int) : Int := if redOk p q = true then redP p q else 0
def tolQ (p q : Int) : Int := if redOk p q = true then redQ p q else 1
def s_told : Spec := fun args S => match args, S with
  | [.ptr b 0 0, .int .i64 p, .int .i64 q], [.arr .bool [bad] 0 true] => ⟨b = 0 ∧ q ≠ 0 ∧ (-9223372036854775807 ≤ p ∧ p ≤ 9223372036854775807) ∧ (-9223372036854775807 ≤ q ∧ q ≤ 9223372036854775807), .agg [.int .i64 (tolP p q), .int .i64 (tolQ p q)], [.arr .bool [bad || !redOk p q] 0 true]⟩
  | _, _ => noSpec
def s_zero : Spec := fun args S => match args, S with
  | [], [] => ⟨True, .agg [.int .i64 0, .int .i64 1], []⟩
  | _, _ => noSpec
theorem ok_zero : SpecOk Try.prog 61 s_zero := by
  intro args S h; unfold s_zero at h ⊢; (split at h <;> first | exact False.elim h | skip)
  dsimp only at h ⊢
  refine funW tabOk (E := []) trivial [] (k := 0) (fn := Try.f61) rfl rfl rfl rfl rfl rfl ?_
  (repeat' ((try (conv => whnf)); first | (with_reducible first | refine And.intro ?_ ?_ | refine WX.of ?_) | exact zc | ((with_reducible refine VC.mk ?_); exact zw) | (with_reducible first | refine splitT ?_ | refine splitF ?_) | ((with_reducible refine splitM.mk (fun hsm => ?_) (fun hsm => ?_)) <;> (try exact zx)) | ((with_reducible refine splitB.mk (fun h => ?_) (fun h => ?_)) <;> (try simp only [zs, ne_eq] at h) <;> (try simp (disch := omega) only [w64] at h) <;> (try exact zx)) | (with_reducible intro hz; (try exact absurd hz (Nat.succ_ne_zero _)))))
theorem ok_told : SpecOk Try.prog 55 s_told := by
  intro args S h; unfold s_told at h ⊢; (split at h <;> first | exact False.elim h | skip)
  dsimp only at h ⊢
  rename_i b p q bad
  obtain ⟨rfl, h0, hp, hq⟩ := h
  refine funW tabOk (E := [(90, s_fracOf), (61, s_zero)]) ⟨ok_fracOf, ok_zero, trivial⟩ [] (k := 1) (fn := Try.f55) rfl rfl rfl rfl rfl rfl ?_
  (repeat' ((try (conv => whnf)); first | (with_reducible first | refine And.intro ?_ ?_ | refine WX.of ?_) | exact zc | ((with_reducible refine VC.mk ?_); exact zw) | (with_reducible first | refine splitT ?_ | refine splitF ?_) | ((with_reducible refine splitM.mk (fun hsm => ?_) (fun hsm => ?_)) <;> (try exact zx)) | ((with_reducible refine splitB.mk (fun h => ?_) (fun h => ?_)) <;> (try simp only [zs, ne_eq] at h) <;> (try simp (disch := omega) only [w64] at h) <;> (try exact zx)) | (with_reducible intro hz; (try exact absurd hz (Nat.succ_ne_zero _)))))
  all_goals (refine ⟨?_⟩; simp [tolP, tolQ, h])
def s_one : Spec := fun args S => match args, S with
  | [.ptr b 0 0, .agg [.int .i64 p, .int .i64 q]], [.arr .bool [bad] 0 true] => ⟨b = 0, .tup [.agg [.int .i64 (if bad = true then 0 else p), .int .i64 (if bad = true then 0 else q)], .int .i64 (if bad = true then 3 else 0)], [.arr .bool [bad] 0 true]⟩
  | _, _ => noSpec
theorem ok_one : SpecOk Try.prog 60 s_one := by
  intro args S h; unfold s_one at h ⊢; (split at h <;> first | exact False.elim h | skip)
  dsimp only at h ⊢
  rename_i b p q bad
  subst h
  refine funW tabOk (E := []) trivial [] (k := 1) (fn := Try.f60) rfl rfl rfl rfl rfl rfl ?_
  (repeat' ((try (conv => whnf)); first | (with_reducible first | refine And.intro ?_ ?_ | refine WX.of ?_) | exact zc | ((with_reducible refine VC.mk ?_); exact zw) | (with_reducible first | refine splitT ?_ | refine splitF ?_) | ((with_reducible refine splitM.mk (fun hsm => ?_) (fun hsm => ?_)) <;> (try exact zx)) | ((with_reducible refine splitB.mk (fun h => ?_) (fun h => ?_)) <;> (try simp only [zs, ne_eq] at h) <;> (try simp (disch := omega) only [w64] at h) <;> (try exact zx)) | (with_reducible intro hz; (try exact absurd hz (Nat.succ_ne_zero _)))))
  all_goals (refine ⟨?_⟩; simp [h])
theorem mulB {a b : Int} (ha : -1000000000 ≤ a ∧ a ≤ 1000000000) (hb : -1000000000 ≤ b ∧ b ≤ 1000000000) : -1000000000000000000 ≤ a * b ∧ a * b ≤ 1000000000000000000 := by
  have h1 : a.natAbs ≤ 1000000000 := by omega
  have h2 : b.natAbs ≤ 1000000000 := by omega
  have h3 := Nat.mul_le_mul h1 h2
  rw [← Int.natAbs_mul] at h3
  omega
theorem mulPos {a b : Int} (ha : 1 ≤ a) (hb : 1 ≤ b) : 1 ≤ a * b := by
  have := Int.mul_le_mul ha hb (by omega) (by omega)
  omega
/-- The parts of a fraction within bounds. -/
def smF (p q : Int) : Prop := (-1000000000 ≤ p ∧ p ≤ 1000000000) ∧ 1 ≤ q ∧ q ≤ 1000000000
theorem smF_ok {p q : Int} (h : fOk p q = true) : smF p q := by
  rw [fOk_iff] at h; unfold smF; omega
theorem smF_tol (p q : Int) : smF (tolP p q) (tolQ p q) := by
  unfold tolP tolQ
  split
  · rename_i h; exact smF_ok h
  · unfold smF; omega
theorem smF_1 {n : Int} (h : -1000000000 ≤ n ∧ n ≤ 1000000000) : smF n 1 := by unfold smF; omega
def s_add : Spec := fun args S => match args, S with
  | [.ptr b 0 0, .agg [.int .i64 p, .int .i64 q], .agg [.int .i64 p', .int .i64 q']], [.arr .bool [bad] 0 true] => ⟨b = 0 ∧ smF p q ∧ smF p' q', .agg [.int .i64 (tolP (p * q' + p' * q) (q * q')), .int .i64 (tolQ (p * q' + p' * q) (q * q'))], [.arr .bool [bad || !redOk (p * q' + p' * q) (q * q')] 0 true]⟩
  | _, _ => noSpec
def s_sub : Spec := fun args S => match args, S with
  | [.ptr b 0 0, .agg [.int .i64 p, .int .i64 q], .agg [.int .i64 p', .int .i64 q']], [.arr .bool [bad] 0 true] => ⟨b = 0 ∧ smF p q ∧ smF p' q', .agg [.int .i64 (tolP (p * q' - p' * q) (q * q')), .int .i64 (tolQ (p * q' - p' * q) (q * q'))], [.arr .bool [bad || !redOk (p * q' - p' * q) (q * q')] 0 true]⟩
  | _, _ => noSpec
def s_mul : Spec := fun args S => match args, S with
  | [.ptr b 0 0, .agg [.int .i64 p, .int .i64 q], .agg [.int .i64 p', .int .i64 q']], [.arr .bool [bad] 0 true] => ⟨b = 0 ∧ smF p q ∧ smF p' q', .agg [.int .i64 (tolP (p * p') (q * q')), .int .i64 (tolQ (p * p') (q * q'))], [.arr .bool [bad || !redOk (p * p') (q * q')] 0 true]⟩
  | _, _ => noSpec
/-- A quotient; by 0 nothing valid. -/
def divOk (p q p' q' : Int) : Bool := !decide (p' = 0) && redOk (p * q') (q * p')
def divP (p q p' q' : Int) : Int := if p' = 0 then 0 else tolP (p * q') (q * p')
def divQ (p q p' q' : Int) : Int := if p' = 0 then 1 else tolQ (p * q') (q * p')
def s_div : Spec := fun args S => match args, S with
  | [.ptr b 0 0, .agg [.int .i64 p, .int .i64 q], .agg [.int .i64 p', .int .i64 q']], [.arr .bool [bad] 0 true] => ⟨b = 0 ∧ smF p q ∧ smF p' q', .agg [.int .i64 (divP p q p' q'), .int .i64 (divQ p q p' q')], [.arr .bool [bad || !divOk p q p' q'] 0 true]⟩
  | _, _ => noSpec
theorem smF_mul {p q p' q' : Int} (h : smF p q) (h' : smF p' q') :
    (-1000000000000000000 ≤ p * q' ∧ p * q' ≤ 1000000000000000000) ∧ (-1000000000000000000 ≤ p' * q ∧ p' * q ≤ 1000000000000000000) ∧ (-1000000000000000000 ≤ q * p' ∧ q * p' ≤ 1000000000000000000) ∧ (-1000000000000000000 ≤ p * p' ∧ p * p' ≤ 1000000000000000000) ∧ (1 ≤ q * q' ∧ q * q' ≤ 1000000000000000000) := by
  unfold smF at h h'
  exact ⟨mulB h.1 ⟨by omega, by omega⟩, mulB h'.1 ⟨by omega, by omega⟩, mulB ⟨by omega, by omega⟩ h'.1, mulB h.1 h'.1, mulPos h.2.1 h'.2.1, (mulB ⟨by omega, by omega⟩ ⟨by omega, by omega⟩).2⟩
theorem ok_add : SpecOk Try.prog 53 s_add := by
  intro args S h; unfold s_add at h ⊢; (split at h <;> first | exact False.elim h | skip)
  dsimp only at h ⊢
  rename_i b p q p' q' bad
  obtain ⟨rfl, h1, h2⟩ := h
  have hm := smF_mul h1 h2
  refine funW tabOk (E := [(55, s_told)]) ⟨ok_told, trivial⟩ [] (k := 1) (fn := Try.f53) rfl rfl rfl rfl rfl rfl ?_
  (repeat' ((try (conv => whnf)); first | (with_reducible first | refine And.intro ?_ ?_ | refine WX.of ?_) | exact zc | ((with_reducible refine VC.mk ?_); exact zw) | ((with_reducible refine VC.mk ?_); simp (disch := omega) only [w64]; first  |  done  |  omega  |  (refine ⟨?_, ?_, ?_⟩ <;> first  |  trivial  |  omega)) | (with_reducible first | refine splitT ?_ | refine splitF ?_) | ((with_reducible refine splitM.mk (fun hsm => ?_) (fun hsm => ?_)) <;> (try exact zx)) | ((with_reducible refine splitB.mk (fun h => ?_) (fun h => ?_)) <;> (try simp only [zs, ne_eq] at h) <;> (try simp (disch := omega) only [w64] at h) <;> (try exact zx)) | (with_reducible intro hz; (try exact absurd hz (Nat.succ_ne_zero _)))))
theorem ok_sub : SpecOk Try.prog 25 s_sub := by
  intro args S h; unfold s_sub at h ⊢; (split at h <;> first | exact False.elim h | skip)
  dsimp only at h ⊢
  rename_i b p q p' q' bad
  obtain ⟨rfl, h1, h2⟩ := h
  have hm := smF_mul h1 h2
  refine funW tabOk (E := [(55, s_told)]) ⟨ok_told, trivial⟩ [] (k := 1) (fn := Try.f25) rfl rfl rfl rfl rfl rfl ?_
  (repeat' ((try (conv => whnf)); first | (with_reducible first | refine And.intro ?_ ?_ | refine WX.of ?_) | exact zc | ((with_reducible refine VC.mk ?_); exact zw) | ((with_reducible refine VC.mk ?_); simp (disch := omega) only [w64]; first  |  done  |  omega  |  (refine ⟨?_, ?_, ?_⟩ <;> first  |  trivial  |  omega)) | (with_reducible first | refine splitT ?_ | refine splitF ?_) | ((with_reducible refine splitM.mk (fun hsm => ?_) (fun hsm => ?_)) <;> (try exact zx)) | ((with_reducible refine splitB.mk (fun h => ?_) (fun h => ?_)) <;> (try simp only [zs, ne_eq] at h) <;> (try simp (disch := omega) only [w64] at h) <;> (try exact zx)) | (with_reducible intro hz; (try exact absurd hz (Nat.succ_ne_zero _)))))
theorem ok_mul : SpecOk Try.prog 54 s_mul := by
  intro args S h; unfold s_mul at h ⊢; (split at h <;> first | exact False.elim h | skip)
  dsimp only at h ⊢
  rename_i b p q p' q' bad
  obtain ⟨rfl, h1, h2⟩ := h
  have hm := smF_mul h1 h2
  refine funW tabOk (E := [(55, s_told)]) ⟨ok_told, trivial⟩ [] (k := 1) (fn := Try.f54) rfl rfl rfl rfl rfl rfl ?_
  (repeat' ((try (conv => whnf)); first | (with_reducible first | refine And.intro ?_ ?_ | refine WX.of ?_) | exact zc | ((with_reducible refine VC.mk ?_); exact zw) | ((with_reducible refine VC.mk ?_); simp (disch := omega) only [w64]; first  |  done  |  omega  |  (refine ⟨?_, ?_, ?_⟩ <;> first  |  trivial  |  omega)) | (with_reducible first | refine splitT ?_ | refine splitF ?_) | ((with_reducible refine splitM.mk (fun hsm => ?_) (fun hsm => ?_)) <;> (try exact zx)) | ((with_reducible refine splitB.mk (fun h => ?_) (fun h => ?_)) <;> (try simp only [zs, ne_eq] at h) <;> (try simp (disch := omega) only [w64] at h) <;> (try exact zx)) | (with_reducible intro hz; (try exact absurd hz (Nat.succ_ne_zero _)))))
theorem ok_div : SpecOk Try.prog 29 s_div := by
  intro args S h; unfold s_div at h ⊢; (split at h <;> first | exact False.elim h | skip)
  dsimp only at h ⊢
  rename_i b p q p' q' bad
  obtain ⟨rfl, h1, h2⟩ := h
  have hm := smF_mul h1 h2
  refine funW tabOk (E := [(55, s_told), (61, s_zero)]) ⟨ok_told, ok_zero, trivial⟩ [] (k := 1) (fn := Try.f29) rfl rfl rfl rfl rfl rfl ?_
  (repeat' ((try (conv => whnf)); first | (with_reducible first | refine And.intro ?_ ?_ | refine WX.of ?_) | exact zc | ((with_reducible refine VC.mk ?_); exact zw) | ((with_reducible refine VC.mk ?_); simp (disch := omega) only [w64]; first  |  done  |  omega  |  (refine ⟨?_, ?_, ?_⟩ <;> first  |  trivial  |  omega)) | (with_reducible first | refine splitT ?_ | refine splitF ?_) | ((with_reducible refine splitM.mk (fun hsm => ?_) (fun hsm => ?_)) <;> (try exact zx)) | ((with_reducible refine splitB.mk (fun h => ?_) (fun h => ?_)) <;> (try simp only [zs, ne_eq] at h) <;> (try simp (disch := omega) only [w64] at h) <;> (try exact zx)) | (with_reducible intro hz; (try exact absurd hz (Nat.succ_ne_zero _)))))
  · refine ⟨?_⟩; simp [divP, divQ, h]
  · refine ⟨?_⟩; simp [divOk, h]
  · have h3 : q * p' ≠ 0 := Int.mul_ne_zero (by unfold smF at h1; omega) h
    refine ⟨?_⟩
    simp (disch := omega) only [w64]
    refine ⟨?_, h3, ?_, ?_⟩ <;> first | trivial | omega
  · refine ⟨?_⟩
    simp (disch := omega) only [w64]
    simp [divP, divQ, h]
  · refine ⟨?_⟩
    simp (disch := omega) only [w64]
    simp [divOk, h]
def s_num : Spec := fun args S => match args, S with
  | [.int .i64 n], [] => ⟨True, .agg [.int .i64 n, .int .i64 1], []⟩
  | _, _ => noSpec
theorem ok_num : SpecOk Try.prog 26 s_num := by
  intro args S h; unfold s_num at h ⊢; (split at h <;> first | exact False.elim h | skip)
  dsimp only at h ⊢
  refine funW tabOk (E := []) trivial [] (k := 0) (fn := Try.f26) rfl rfl rfl rfl rfl rfl ?_
  (repeat' ((try (conv => whnf)); first | (with_reducible first | refine And.intro ?_ ?_ | refine WX.of ?_) | exact zc | ((with_reducible refine VC.mk ?_); exact zw) | (with_reducible first | refine splitT ?_ | refine splitF ?_) | ((with_reducible refine splitM.mk (fun hsm => ?_) (fun hsm => ?_)) <;> (try exact zx)) | ((with_reducible refine splitB.mk (fun h => ?_) (fun h => ?_)) <;> (try simp only [zs, ne_eq] at h) <;> (try simp (disch := omega) only [w64] at h) <;> (try exact zx)) | (with_reducible intro hz; (try exact absurd hz (Nat.succ_ne_zero _)))))
theorem ok_l01Whole : SpecOk Try.prog 46 s_num := by
  intro args S h; unfold s_num at h ⊢; (split at h <;> first | exact False.elim h | skip)
  dsimp only at h ⊢
  refine funW tabOk (E := []) trivial [] (k := 0) (fn := Try.f46) rfl rfl rfl rfl rfl rfl ?_
  (repeat' ((try (conv => whnf)); first | (with_reducible first | refine And.intro ?_ ?_ | refine WX.of ?_) | exact zc | ((with_reducible refine VC.mk ?_); exact zw) | (with_reducible first | refine splitT ?_ | refine splitF ?_) | ((with_reducible refine splitM.mk (fun hsm => ?_) (fun hsm => ?_)) <;> (try exact zx)) | ((with_reducible refine splitB.mk (fun h => ?_) (fun h => ?_)) <;> (try simp only [zs, ne_eq] at h) <;> (try simp (disch := omega) only [w64] at h) <;> (try exact zx)) | (with_reducible intro hz; (try exact absurd hz (Nat.succ_ne_zero _)))))
/-- What l01Reduced answers. -/
def rdP (p q : Int) : Int := if redOk p q = true then redP p q else 0
def rdQ (p q : Int) : Int := if redOk p q = true then redQ p q else 0
def rdC (p q : Int) : Int := if redOk p q = true then 0 else 3
def s_addS : Spec := fun args S => match args, S with
  | [.agg [.int .i64 p, .int .i64 q], .agg [.int .i64 p', .int .i64 q']], [] => ⟨smF p q ∧ smF p' q', .tup [.agg [.int .i64 (rdP (p * q' + p' * q) (q * q')), .int .i64 (rdQ (p * q' + p' * q) (q * q'))], .int .i64 (rdC (p * q' + p' * q) (q * q'))], []⟩
  | _, _ => noSpec
def s_mulS : Spec := fun args S => match args, S with
  | [.agg [.int .i64 p, .int .i64 q], .agg [.int .i64 p', .int .i64 q']], [] => ⟨smF p q ∧ smF p' q', .tup [.agg [.int .i64 (rdP (p * p') (q * q')), .int .i64 (rdQ (p * p') (q * q'))], .int .i64 (rdC (p * p') (q * q'))], []⟩
  | _, _ => noSpec
theorem ok_l01Add : SpecOk Try.prog 82 s_addS := by
  intro args S h; unfold s_addS at h ⊢; (split at h <;> first | exact False.elim h | skip)
  dsimp only at h ⊢
  rename_i p q p' q'
  have hm := smF_mul h.1 h.2
  refine funW tabOk (E := [(87, s_red)]) ⟨ok_l01Reduced, trivial⟩ [] (k := 0) (fn := Try.f82) rfl rfl rfl rfl rfl rfl ?_
  (repeat' ((try (conv => whnf)); first | (with_reducible first | refine And.intro ?_ ?_ | refine WX.of ?_) | exact zc | ((with_reducible refine VC.mk ?_); exact zw) | ((with_reducible refine VC.mk ?_); simp (disch := omega) only [w64]; first  |  done  |  omega  |  (refine ⟨?_, ?_, ?_⟩ <;> first  |  trivial  |  omega)) | (with_reducible first | refine splitT ?_ | refine splitF ?_) | ((with_reducible refine splitM.mk (fun hsm => ?_) (fun hsm => ?_)) <;> (try exact zx)) | ((with_reducible refine splitB.mk (fun h => ?_) (fun h => ?_)) <;> (try simp only [zs, ne_eq] at h) <;> (try simp (disch := omega) only [w64] at h) <;> (try exact zx)) | (with_reducible intro hz; (try exact absurd hz (Nat.succ_ne_zero _)))))
  all_goals (refine ⟨?_⟩; simp (disch := omega) only [w64]; rfl)
theorem ok_l01Mul : SpecOk Try.prog 81 s_mulS := by
  intro args S h; unfold s_mulS at h ⊢; (split at h <;> first | exact False.elim h | skip)
  dsimp only at h ⊢
  rename_i p q p' q'
  have hm := smF_mul h.1 h.2
  refine funW tabOk (E := [(87, s_red)]) ⟨ok_l01Reduced, trivial⟩ [] (k := 0) (fn := Try.f81) rfl rfl rfl rfl rfl rfl ?_
  (repeat' ((try (conv => whnf)); first | (with_reducible first | refine And.intro ?_ ?_ | refine WX.of ?_) | exact zc | ((with_reducible refine VC.mk ?_); exact zw) | ((with_reducible refine VC.mk ?_); simp (disch := omega) only [w64]; first  |  done  |  omega  |  (refine ⟨?_, ?_, ?_⟩ <;> first  |  trivial  |  omega)) | (with_reducible first | refine splitT ?_ | refine splitF ?_) | ((with_reducible refine splitM.mk (fun hsm => ?_) (fun hsm => ?_)) <;> (try exact zx)) | ((with_reducible refine splitB.mk (fun h => ?_) (fun h => ?_)) <;> (try simp only [zs, ne_eq] at h) <;> (try simp (disch := omega) only [w64] at h) <;> (try exact zx)) | (with_reducible intro hz; (try exact absurd hz (Nat.succ_ne_zero _)))))
  all_goals (refine ⟨?_⟩; simp (disch := omega) only [w64]; rfl)
end Go.Proofs.Ytbmejhabgoimeaa.Eng
set_option linter.unusedVariables false
set_option linter.unusedSimpArgs false
namespace Go.Proofs.Ytbmejhabgoimeaa.Eng
open Go Go.RowKit
set_option maxRecDepth 100000
def s_nfOk : Spec := fun args S => match args, S with
  | [.agg [.int .i64 p, .int .i64 q]], [] => ⟨True, .bool (!fOk p q), []⟩
  | _, _ => noSpec
theorem ok_areValid1 : SpecOk Try.prog 103 s_nfOk := by
  intro args S h; unfold s_nfOk at h ⊢; (split at h <;> first | exact False.elim h | skip)
  dsimp only at h ⊢
  refine funW tabOk (E := [(37, s_fOk)]) ⟨ok_ValidFrac, trivial⟩ [] (k := 0) (fn := Try.f103) rfl rfl rfl rfl rfl rfl ?_
  (repeat' ((try (conv => whnf)); first | (with_reducible first | refine And.intro ?_ ?_ | refine WX.of ?_) | exact zc | ((with_reducible refine VC.mk ?_); exact zw) | (with_reducible first | refine splitT ?_ | refine splitF ?_) | ((with_reducible refine splitM.mk (fun hsm => ?_) (fun hsm => ?_)) <;> (try exact zx)) | ((with_reducible refine splitB.mk (fun h => ?_) (fun h => ?_)) <;> (try simp only [zs, ne_eq] at h) <;> (try simp (disch := omega) only [w64] at h) <;> (try exact zx)) | (with_reducible intro hz; (try exact absurd hz (Nat.succ_ne_zero _)))))
def nfOk (a : Int × Int) : Bool := !fOk a.1 a.2
def s_idxF (g : Nat) : Spec := fun args S => match args, S with
  | [.sl 0 s n x, .fn g' []], [.arr (.prod (.int .i64) (.int .i64)) l 2 wr] => ⟨g' = g ∧ s + n ≤ l.length ∧ n ≤ 4611686018427387904, .int .i64 (findI nfOk (seg l s n)), [.arr (.prod (.int .i64) (.int .i64)) l 2 wr]⟩
  | _, _ => noSpec
theorem ok_idxF : SpecOk Try.prog 117 (s_idxF 103) := by
  intro args S h; unfold s_idxF at h ⊢; (split at h <;> first | exact False.elim h | skip)
  dsimp only at h ⊢
  rename_i s n x g l wr
  obtain ⟨rfl, h1, h2⟩ := h
  have hL := seg_len h1
  refine funW tabOk (E := [(103, s_nfOk)]) ⟨ok_areValid1, trivial⟩ [] (k := 1) (fn := Try.f117) rfl rfl rfl rfl rfl rfl ?_
  (repeat' ((try (conv => whnf)); first | (with_reducible first | refine And.intro ?_ ?_ | refine WX.of ?_) | exact zc | ((with_reducible refine VC.mk ?_); exact zw) | (with_reducible first | refine splitT ?_ | refine splitF ?_) | ((with_reducible refine splitM.mk (fun hsm => ?_) (fun hsm => ?_)) <;> (try exact zx)) | ((with_reducible refine splitB.mk (fun h => ?_) (fun h => ?_)) <;> (try simp only [zs, ne_eq] at h) <;> (try simp (disch := omega) only [w64] at h) <;> (try exact zx)) | (with_reducible intro hz; (try exact absurd hz (Nat.succ_ne_zero _)))))
  refine loopW tabOk (E := [(103, s_nfOk)]) ⟨ok_areValid1, trivial⟩ [] (σ := Nat) (fun i => [(0, .sl 0 s n x), (1, .fn 103 []), (7, .int .i64 n), (8, .int .i64 i)]) (fun i => [.arr (.prod (.int .i64) (.int .i64)) l 2 wr]) (fun i => n - i) (fun i => i ≤ n ∧ ∀ (j : Nat) a, j < i → (seg l s n)[j]? = some a → nfOk a = false) 0 ⟨Nat.zero_le _, fun j a hj => by omega⟩ ?_ ?_
  · (repeat' ((try (conv => whnf)); first | (with_reducible first | refine And.intro ?_ ?_ | refine WX.of ?_) | exact zc | ((with_reducible refine VC.mk ?_); exact zw) | (with_reducible first | refine splitT ?_ | refine splitF ?_) | ((with_reducible refine splitM.mk (fun hsm => ?_) (fun hsm => ?_)) <;> (try exact zx)) | ((with_reducible refine splitB.mk (fun h => ?_) (fun h => ?_)) <;> (try simp only [zs, ne_eq] at h) <;> (try simp (disch := omega) only [w64] at h) <;> (try exact zx)) | (with_reducible intro hz; (try exact absurd hz (Nat.succ_ne_zero _)))))
  · intro i ⟨hi, hp⟩
    by_cases hlt : i < n
    · obtain ⟨a, ha⟩ := get_some (l := seg l s n) (i := i) (by omega)
      (repeat' ((try (conv => whnf)); first | (with_reducible first | refine And.intro ?_ ?_ | refine WX.of ?_) | exact zc | ((with_reducible refine VC.mk ?_); exact zw) | refine atL_i ha ?_ | (with_reducible first | refine splitT ?_ | refine splitF ?_) | ((with_reducible refine splitM.mk (fun hsm => ?_) (fun hsm => ?_)) <;> (try exact zx)) | ((with_reducible refine splitB.mk (fun h => ?_) (fun h => ?_)) <;> (try simp only [zs, ne_eq] at h) <;> (try simp (disch := omega) only [w64] at h) <;> (try exact zx)) | (with_reducible intro hz; (try exact absurd hz (Nat.succ_ne_zero _)))))
      · exact ⟨by rw [findI_some ha (by simpa [nfOk] using h) hp]⟩
      · refine ⟨i + 1, by omega, ⟨hlt, upto_step ha (by simpa [nfOk] using h) hp⟩, ?_⟩
        (repeat' ((try (conv => whnf)); first | (with_reducible first | refine And.intro ?_ ?_ | refine WX.of ?_) | exact zc | ((with_reducible refine VC.mk ?_); exact zw) | (with_reducible first | refine splitT ?_ | refine splitF ?_) | ((with_reducible refine splitM.mk (fun hsm => ?_) (fun hsm => ?_)) <;> (try exact zx)) | ((with_reducible refine splitB.mk (fun h => ?_) (fun h => ?_)) <;> (try simp only [zs, ne_eq] at h) <;> (try simp (disch := omega) only [w64] at h) <;> (try exact zx)) | (with_reducible intro hz; (try exact absurd hz (Nat.succ_ne_zero _)))))
    · (repeat' ((try (conv => whnf)); first | (with_reducible first | refine And.intro ?_ ?_ | refine WX.of ?_) | exact zc | ((with_reducible refine VC.mk ?_); exact zw) | (with_reducible first | refine splitT ?_ | refine splitF ?_) | ((with_reducible refine splitM.mk (fun hsm => ?_) (fun hsm => ?_)) <;> (try exact zx)) | ((with_reducible refine splitB.mk (fun h => ?_) (fun h => ?_)) <;> (try simp only [zs, ne_eq] at h) <;> (try simp (disch := omega) only [w64] at h) <;> (try exact zx)) | (with_reducible intro hz; (try exact absurd hz (Nat.succ_ne_zero _)))))
      exact ⟨by rw [findI_none fun j a hj => hp j a (by have := (List.getElem?_eq_some_iff.1 hj).1; omega) hj]⟩
def s_anyF (g : Nat) : Spec := fun args S => match args, S with
  | [.sl 0 s n x, .fn g' []], [.arr (.prod (.int .i64) (.int .i64)) l 2 wr] => ⟨g' = g ∧ s + n ≤ l.length ∧ n ≤ 4611686018427387904, .bool ((seg l s n).any nfOk), [.arr (.prod (.int .i64) (.int .i64)) l 2 wr]⟩
  | _, _ => noSpec
theorem ok_anyF : SpecOk Try.prog 102 (s_anyF 103) := by
  intro args S h; unfold s_anyF at h ⊢; (split at h <;> first | exact False.elim h | skip)
  dsimp only at h ⊢
  rename_i s n x g l wr
  obtain ⟨rfl, h1, h2⟩ := h
  refine funW tabOk (E := [(117, (s_idxF 103))]) ⟨ok_idxF, trivial⟩ [] (k := 1) (fn := Try.f102) rfl rfl rfl rfl rfl rfl ?_
  (repeat' ((try (conv => whnf)); first | (with_reducible first | refine And.intro ?_ ?_ | refine WX.of ?_) | exact zc | ((with_reducible refine VC.mk ?_); exact zw) | (with_reducible first | refine splitT ?_ | refine splitF ?_) | ((with_reducible refine splitM.mk (fun hsm => ?_) (fun hsm => ?_)) <;> (try exact zx)) | ((with_reducible refine splitB.mk (fun h => ?_) (fun h => ?_)) <;> (try simp only [zs, ne_eq] at h) <;> (try simp (disch := omega) only [w64] at h) <;> (try exact zx)) | (with_reducible intro hz; (try exact absurd hz (Nat.succ_ne_zero _)))))
  exact ⟨by rw [findI_any]⟩
/-- Valid fractions. -/
def allF (L : List (Int × Int)) : Bool := L.all fun a => fOk a.1 a.2
def s_allF : Spec := fun args S => match args, S with
  | [.sl 0 s n x], [.arr (.prod (.int .i64) (.int .i64)) l 2 wr] => ⟨s + n ≤ l.length ∧ n ≤ 4611686018427387904, .bool (allF (seg l s n)), [.arr (.prod (.int .i64) (.int .i64)) l 2 wr]⟩
  | _, _ => noSpec
theorem ok_areValid : SpecOk Try.prog 70 s_allF := by
  intro args S h; unfold s_allF at h ⊢; (split at h <;> first | exact False.elim h | skip)
  dsimp only at h ⊢
  refine funW tabOk (E := [(102, (s_anyF 103))]) ⟨ok_anyF, trivial⟩ [] (k := 1) (fn := Try.f70) rfl rfl rfl rfl rfl rfl ?_
  (repeat' ((try (conv => whnf)); first | (with_reducible first | refine And.intro ?_ ?_ | refine WX.of ?_) | exact zc | ((with_reducible refine VC.mk ?_); exact zw) | (with_reducible first | refine splitT ?_ | refine splitF ?_) | ((with_reducible refine splitM.mk (fun hsm => ?_) (fun hsm => ?_)) <;> (try exact zx)) | ((with_reducible refine splitB.mk (fun h => ?_) (fun h => ?_)) <;> (try simp only [zs, ne_eq] at h) <;> (try simp (disch := omega) only [w64] at h) <;> (try exact zx)) | (with_reducible intro hz; (try exact absurd hz (Nat.succ_ne_zero _)))))
  all_goals (refine ⟨?_⟩; unfold allF; rw [List.all_eq_not_any_not]; rfl)
theorem floor_t {a b : Int} (hb : 0 < b) : (a.tmod b < 0 → a.tdiv b - 1 = a / b ∧ a < 0 ∧ a / b < 0) ∧ (0 ≤ a.tmod b → a.tdiv b = a / b) ∧ (a < 0 → a.tmod b ≤ 0) := by
  have h1 := Int.tdiv_eq_ediv (a := a) (b := b)
  have h2 := Int.tmod_eq_emod (a := a) (b := b)
  have h3 := Int.emod_nonneg a (show b ≠ 0 by omega)
  have h4 := Int.emod_lt_of_pos a hb
  have hs : b.sign = 1 := Int.sign_eq_one_of_pos hb
  rw [hs] at h1
  have h7 : a < 0 → a / b < 0 := fun h => Int.ediv_neg_of_neg_of_pos h hb
  split at h1
  · rename_i h
    rw [if_pos h] at h2
    refine ⟨by omega, by omega, fun h5 => ?_⟩
    have h6 : b ∣ a := by rcases h with h | h; omega; exact h
    have := Int.emod_eq_zero_of_dvd h6
    omega
  · rename_i h
    rw [if_neg h] at h2
    have : a < 0 := by apply Classical.byContradiction; intro h9; exact h (.inl (by omega))
    have := h7 this
    omega
theorem ediv_b {a b M : Int} (hb : 0 < b) (h : -M ≤ a ∧ a ≤ M) : -M ≤ a / b ∧ a / b ≤ M := ediv_small hb h
def s_floor : Spec := fun args S => match args, S with
  | [.int .i64 a, .int .i64 b], [] => ⟨0 < b ∧ b < 9223372036854775808 ∧ -9223372036854775807 ≤ a ∧ a ≤ 9223372036854775807, .int .i64 (a / b), []⟩
  | _, _ => noSpec
theorem ok_floorDiv : SpecOk Try.prog 96 s_floor := by
  intro args S h; unfold s_floor at h ⊢; (split at h <;> first | exact False.elim h | skip)
  dsimp only at h ⊢
  rename_i a b
  have ht := floor_t (a := a) h.1
  have hq := ediv_b h.1 h.2.2
  have hr := Int.tmod_lt_of_pos a h.1
  refine funW tabOk (E := []) trivial [] (k := 0) (fn := Try.f96) rfl rfl rfl rfl rfl rfl ?_
  (repeat' ((try (conv => whnf)); first | (with_reducible first | refine And.intro ?_ ?_ | refine WX.of ?_) | exact zc | ((with_reducible refine VC.mk ?_); exact zw) | (with_reducible first | refine splitT ?_ | refine splitF ?_) | ((with_reducible refine splitM.mk (fun hsm => ?_) (fun hsm => ?_)) <;> (try exact zx)) | ((with_reducible refine splitB.mk (fun h => ?_) (fun h => ?_)) <;> (try simp only [zs, ne_eq] at h) <;> (try simp (disch := omega) only [w64] at h) <;> (try exact zx)) | (with_reducible intro hz; (try exact absurd hz (Nat.succ_ne_zero _)))))
  · rename_i h0
    simp [show ¬ b < 0 by omega] at h
    have ht1 := ht.1 (by omega)
    refine ⟨?_⟩
    rw [show a.tdiv b = a / b + 1 by omega, w64 (n := a / b + 1) (by omega), w64 (by omega)]; simp
  · simp [show ¬ b < 0 by omega] at h
    have ht1 := ht.2.1 (by omega)
    refine ⟨?_⟩
    rw [ht1, w64 (by omega)]
theorem ok_l01Down : SpecOk Try.prog 109 s_floor := by
  intro args S h; unfold s_floor at h ⊢; (split at h <;> first | exact False.elim h | skip)
  dsimp only at h ⊢
  rename_i a b
  have ht := floor_t (a := a) h.1
  have hq := ediv_b h.1 h.2.2
  refine funW tabOk (E := []) trivial [] (k := 0) (fn := Try.f109) rfl rfl rfl rfl rfl rfl ?_
  (repeat' ((try (conv => whnf)); first | (with_reducible first | refine And.intro ?_ ?_ | refine WX.of ?_) | exact zc | ((with_reducible refine VC.mk ?_); exact zw) | (with_reducible first | refine splitT ?_ | refine splitF ?_) | ((with_reducible refine splitM.mk (fun hsm => ?_) (fun hsm => ?_)) <;> (try exact zx)) | ((with_reducible refine splitB.mk (fun h => ?_) (fun h => ?_)) <;> (try simp only [zs, ne_eq] at h) <;> (try simp (disch := omega) only [w64] at h) <;> (try exact zx)) | (with_reducible intro hz; (try exact absurd hz (Nat.succ_ne_zero _)))))
/-- A name of 1 to 12 letters. -/
def letB (c : UInt8) : Bool := decide (97 ≤ c.toNat ∧ c.toNat ≤ 122)
def wordB (s : List UInt8) : Bool := decide (1 ≤ s.length ∧ s.length ≤ 12) && s.all letB
def s_word : Spec := fun args S => match args, S with
  | [.str s], [] => ⟨s.length ≤ 9223372036854775807, .bool (wordB s), []⟩
  | _, _ => noSpec
theorem word_no {s : List UInt8} {i : Nat} {c : UInt8} (h : s[i]? = some c) (hc : letB c = false) : wordB s = false := by
  unfold wordB
  have : s.all letB = false := by
    rw [List.all_eq_false]
    exact ⟨c, List.mem_of_getElem? h, by simp [hc]⟩
  rw [this]; simp
theorem word_all {s : List UInt8} (h : ∀ (j : Nat) c, s[j]? = some c → letB c = true) : s.all letB = true := by
  rw [List.all_eq_true]
  intro c hc
  obtain ⟨j, hj⟩ := List.getElem?_of_mem hc
  exact h j c hj
theorem ok_isWord : SpecOk Try.prog 110 s_word := by
  intro args S h; unfold s_word at h ⊢; (split at h <;> first | exact False.elim h | skip)
  dsimp only at h ⊢
  rename_i s
  refine funW tabOk (E := [(71, s_within)]) ⟨ok_within, trivial⟩ [] (k := 0) (fn := Try.f110) rfl rfl rfl rfl rfl rfl ?_
  (repeat' ((try (conv => whnf)); first | (with_reducible first | refine And.intro ?_ ?_ | refine WX.of ?_) | exact zc | ((with_reducible refine VC.mk ?_); exact zw) | (with_reducible first | refine splitT ?_ | refine splitF ?_) | ((with_reducible refine splitM.mk (fun hsm => ?_) (fun hsm => ?_)) <;> (try exact zx)) | ((with_reducible refine splitB.mk (fun h => ?_) (fun h => ?_)) <;> (try simp only [zs, ne_eq] at h) <;> (try simp (disch := omega) only [w64] at h) <;> (try exact zx)) | (with_reducible intro hz; (try exact absurd hz (Nat.succ_ne_zero _)))))
  refine loopW tabOk (E := [(71, s_within)]) ⟨ok_within, trivial⟩ [] (σ := Nat) (fun i => [(0, .str s), (5, .int .i64 s.length), (6, .int .i64 i)]) (fun i => []) (fun i => s.length - i) (fun i => i ≤ s.length ∧ ∀ (j : Nat) c, j < i → s[j]? = some c → letB c = true) 0 ⟨Nat.zero_le _, fun j a hj => by omega⟩ ?_ ?_
  · (repeat' ((try (conv => whnf)); first | (with_reducible first | refine And.intro ?_ ?_ | refine WX.of ?_) | exact zc | ((with_reducible refine VC.mk ?_); exact zw) | (with_reducible first | refine splitT ?_ | refine splitF ?_) | ((with_reducible refine splitM.mk (fun hsm => ?_) (fun hsm => ?_)) <;> (try exact zx)) | ((with_reducible refine splitB.mk (fun h => ?_) (fun h => ?_)) <;> (try simp only [zs, ne_eq] at h) <;> (try simp (disch := omega) only [w64] at h) <;> (try exact zx)) | (with_reducible intro hz; (try exact absurd hz (Nat.succ_ne_zero _)))))
  · intro i ⟨hi, hp⟩
    by_cases hlt : i < s.length
    · obtain ⟨c, hc⟩ := get_some (l := s) (i := i) (by omega)
      (repeat' ((try (conv => whnf)); first | (with_reducible first | refine And.intro ?_ ?_ | refine WX.of ?_) | exact zc | ((with_reducible refine VC.mk ?_); exact zw) | refine atL_n hc ?_ | (with_reducible first | refine splitT ?_ | refine splitF ?_) | ((with_reducible refine splitM.mk (fun hsm => ?_) (fun hsm => ?_)) <;> (try exact zx)) | ((with_reducible refine splitB.mk (fun h => ?_) (fun h => ?_)) <;> (try simp only [zs, ne_eq] at h) <;> (try simp (disch := omega) only [w64] at h) <;> (try exact zx)) | (with_reducible intro hz; (try exact absurd hz (Nat.succ_ne_zero _)))))
      · exact ⟨by rw [word_no hc (by unfold letB; rw [decide_eq_false]; omega)]⟩
      · exact ⟨by rw [word_no hc (by unfold letB; rw [decide_eq_false]; omega)]⟩
      · refine ⟨i + 1, by omega, ⟨hlt, upto_step hc (by unfold letB; rw [decide_eq_true]; omega) hp⟩, ?_⟩
        (repeat' ((try (conv => whnf)); first | (with_reducible first | refine And.intro ?_ ?_ | refine WX.of ?_) | exact zc | ((with_reducible refine VC.mk ?_); exact zw) | (with_reducible first | refine splitT ?_ | refine splitF ?_) | ((with_reducible refine splitM.mk (fun hsm => ?_) (fun hsm => ?_)) <;> (try exact zx)) | ((with_reducible refine splitB.mk (fun h => ?_) (fun h => ?_)) <;> (try simp only [zs, ne_eq] at h) <;> (try simp (disch := omega) only [w64] at h) <;> (try exact zx)) | (with_reducible intro hz; (try exact absurd hz (Nat.succ_ne_zero _)))))
    · (repeat' ((try (conv => whnf)); first | (with_reducible first | refine And.intro ?_ ?_ | refine WX.of ?_) | exact zc | ((with_reducible refine VC.mk ?_); exact zw) | (with_reducible first | refine splitT ?_ | refine splitF ?_) | ((with_reducible refine splitM.mk (fun hsm => ?_) (fun hsm => ?_)) <;> (try exact zx)) | ((with_reducible refine splitB.mk (fun h => ?_) (fun h => ?_)) <;> (try simp only [zs, ne_eq] at h) <;> (try simp (disch := omega) only [w64] at h) <;> (try exact zx)) | (with_reducible intro hz; (try exact absurd hz (Nat.succ_ne_zero _)))))
      have ha := word_all fun j c hj => hp j c (by have := (List.getElem?_eq_some_iff.1 hj).1; omega) hj
      refine ⟨congrArg SV.bool ?_⟩
      unfold wordB; rw [ha, Bool.and_true, decide_eq_decide]; omega
theorem red_pos {p q : Int} (hq : 0 < q) : redP p q = p / redG p q ∧ redQ p q = q / redG p q := by
  unfold redP redQ; rw [if_neg (by omega), if_neg (by omega)]; exact ⟨rfl, rfl⟩
theorem red_back {p q : Int} (hq : 0 < q) : p = redG p q * redP p q ∧ q = redG p q * redQ p q := by
  rw [(red_pos hq).1, (red_pos hq).2]
  exact ⟨(Int.mul_ediv_cancel' (Int.gcd_dvd_left ..)).symm, (Int.mul_ediv_cancel' (Int.gcd_dvd_right ..)).symm⟩
theorem redQ_pos {p q : Int} (hq : 0 < q) : 0 < redQ p q := by
  have hg := redG_pos (p := p) (q := q) (by omega)
  have h := (red_back (p := p) hq).2
  apply Classical.byContradiction; intro h2
  have h3 : redG p q * redQ p q ≤ 0 := by
    have := Int.mul_nonneg (show 0 ≤ redG p q by omega) (show 0 ≤ -redQ p q by omega)
    rw [Int.mul_neg] at this; omega
  omega
/-- Small fractions are valid. -/
theorem redOk_small {p q : Int} (hp : -1000000000 ≤ p ∧ p ≤ 1000000000) (hq : 1 ≤ q ∧ q ≤ 1000000000) : redOk p q = true := by
  have hg := redG_pos (p := p) (q := q) (by omega)
  have e := red_pos (p := p) (q := q) (by omega)
  have h1 := redQ_pos (p := p) (q := q) (by omega)
  have h2 := ediv_small hg hp
  have h3 := ediv_small hg (p := q) (M := 1000000000) (by omega)
  have hgc : Int.gcd (redP p q) (redQ p q) = 1 := by
    rw [e.1, e.2]
    exact Int.gcd_ediv_gcd_ediv_gcd (by unfold redG at hg; omega)
  unfold redOk
  rw [fOk_iff]
  rw [← e.1, ← e.2] at *
  exact ⟨by omega, by omega, by omega, by omega, hgc⟩
/-- Comparing. -/
def cmpF (p q p' q' : Int) : Int := if p * q' < p' * q then -1 else if p * q' > p' * q then 1 else 0
def s_cmp : Spec := fun args S => match args, S with
  | [.agg [.int .i64 p, .int .i64 q], .agg [.int .i64 p', .int .i64 q']], [] => ⟨smF p q ∧ smF p' q', .int .i64 (cmpF p q p' q'), []⟩
  | _, _ => noSpec
theorem ok_compare : SpecOk Try.prog 38 s_cmp := by
  intro args S h; unfold s_cmp at h ⊢; (split at h <;> first | exact False.elim h | skip)
  dsimp only at h ⊢
  rename_i p q p' q'
  have hm := smF_mul h.1 h.2
  have hm' := smF_mul h.2 h.1
  refine funW tabOk (E := []) trivial [] (k := 0) (fn := Try.f38) rfl rfl rfl rfl rfl rfl ?_
  (repeat' ((try (conv => whnf)); first | (with_reducible first | refine And.intro ?_ ?_ | refine WX.of ?_) | exact zc | ((with_reducible refine VC.mk ?_); exact zw) | (with_reducible first | refine splitT ?_ | refine splitF ?_) | ((with_reducible refine splitM.mk (fun hsm => ?_) (fun hsm => ?_)) <;> (try exact zx)) | ((with_reducible refine splitB.mk (fun h => ?_) (fun h => ?_)) <;> (try simp only [zs, ne_eq] at h) <;> (try simp (disch := omega) only [w64] at h) <;> (try exact zx)) | (with_reducible intro hz; (try exact absurd hz (Nat.succ_ne_zero _)))))
  all_goals (refine ⟨?_⟩; unfold cmpF; first | (rw [if_pos (by omega)]; done) | (rw [if_neg (by omega), if_pos (by omega)]; done) | (rw [if_neg (by omega), if_neg (by omega)]))
theorem ok_l01Cmp : SpecOk Try.prog 105 s_cmp := by
  intro args S h; unfold s_cmp at h ⊢; (split at h <;> first | exact False.elim h | skip)
  dsimp only at h ⊢
  rename_i p q p' q'
  have hm := smF_mul h.1 h.2
  have hm' := smF_mul h.2 h.1
  refine funW tabOk (E := []) trivial [] (k := 0) (fn := Try.f105) rfl rfl rfl rfl rfl rfl ?_
  (repeat' ((try (conv => whnf)); first | (with_reducible first | refine And.intro ?_ ?_ | refine WX.of ?_) | exact zc | ((with_reducible refine VC.mk ?_); exact zw) | (with_reducible first | refine splitT ?_ | refine splitF ?_) | ((with_reducible refine splitM.mk (fun hsm => ?_) (fun hsm => ?_)) <;> (try exact zx)) | ((with_reducible refine splitB.mk (fun h => ?_) (fun h => ?_)) <;> (try simp only [zs, ne_eq] at h) <;> (try simp (disch := omega) only [w64] at h) <;> (try exact zx)) | (with_reducible intro hz; (try exact absurd hz (Nat.succ_ne_zero _)))))
  all_goals (refine ⟨?_⟩; unfold cmpF; first | (rw [if_pos (by omega)]; done) | (rw [if_neg (by omega), if_pos (by omega)]; done) | (rw [if_neg (by omega), if_neg (by omega)]))
theorem cmpF_le {p q p' q' : Int} : cmpF p q p' q' ≤ 0 ↔ p * q' ≤ p' * q := by unfold cmpF; (repeat' split) <;> omega
theorem cmpF_ge {p q p' q' : Int} : 0 ≤ cmpF p q p' q' ↔ p' * q ≤ p * q' := by unfold cmpF; (repeat' split) <;> omega
theorem cmpF_lt {p q p' q' : Int} : cmpF p q p' q' < 0 ↔ p * q' < p' * q := by unfold cmpF; (repeat' split) <;> omega
theorem cmpF_gt {p q p' q' : Int} : 0 < cmpF p q p' q' ↔ p' * q < p * q' := by unfold cmpF; (repeat' split) <;> omega
/-- The greater and the lesser one. -/
def moF (p q p' q' : Int) : Int × Int := if p' * q ≤ p * q' then (p, q) else (p', q')
def s_more : Spec := fun args S => match args, S with
  | [.agg [.int .i64 p, .int .i64 q], .agg [.int .i64 p', .int .i64 q']], [] => ⟨smF p q ∧ smF p' q', .agg [.int .i64 (moF p q p' q').1, .int .i64 (moF p q p' q').2], []⟩
  | _, _ => noSpec
theorem ok_greater : SpecOk Try.prog 115 s_more := by
  intro args S h; unfold s_more at h ⊢; (split at h <;> first | exact False.elim h | skip)
  dsimp only at h ⊢
  rename_i p q p' q'
  have hc := cmpF_ge (p := p) (q := q) (p' := p') (q' := q')
  refine funW tabOk (E := [(38, s_cmp)]) ⟨ok_compare, trivial⟩ [] (k := 0) (fn := Try.f115) rfl rfl rfl rfl rfl rfl ?_
  (repeat' ((try (conv => whnf)); first | (with_reducible first | refine And.intro ?_ ?_ | refine WX.of ?_) | exact zc | ((with_reducible refine VC.mk ?_); exact zw) | (with_reducible first | refine splitT ?_ | refine splitF ?_) | ((with_reducible refine splitM.mk (fun hsm => ?_) (fun hsm => ?_)) <;> (try exact zx)) | ((with_reducible refine splitB.mk (fun h => ?_) (fun h => ?_)) <;> (try simp only [zs, ne_eq] at h) <;> (try simp (disch := omega) only [w64] at h) <;> (try exact zx)) | (with_reducible intro hz; (try exact absurd hz (Nat.succ_ne_zero _)))))
  all_goals (refine ⟨?_⟩; unfold moF; first | rw [if_pos (by omega)] | rw [if_neg (by omega)])
theorem ok_l01More : SpecOk Try.prog 120 s_more := by
  intro args S h; unfold s_more at h ⊢; (split at h <;> first | exact False.elim h | skip)
  dsimp only at h ⊢
  rename_i p q p' q'
  have hc := cmpF_gt (p := p') (q := q') (p' := p) (q' := q)
  refine funW tabOk (E := [(105, s_cmp)]) ⟨ok_l01Cmp, trivial⟩ [] (k := 0) (fn := Try.f120) rfl rfl rfl rfl rfl rfl ?_
  (repeat' ((try (conv => whnf)); first | (with_reducible first | refine And.intro ?_ ?_ | refine WX.of ?_) | exact zc | ((with_reducible refine VC.mk ?_); exact zw) | (with_reducible first | refine splitT ?_ | refine splitF ?_) | ((with_reducible refine splitM.mk (fun hsm => ?_) (fun hsm => ?_)) <;> (try exact zx)) | ((with_reducible refine splitB.mk (fun h => ?_) (fun h => ?_)) <;> (try simp only [zs, ne_eq] at h) <;> (try simp (disch := omega) only [w64] at h) <;> (try exact zx)) | (with_reducible intro hz; (try exact absurd hz (Nat.succ_ne_zero _)))))
  all_goals first | exact ⟨⟨h.2, h.1⟩⟩ | (refine ⟨?_⟩; unfold moF; first | rw [if_pos (by omega)] | rw [if_neg (by omega)])
theorem smF_mo {p q p' q' : Int} (h : smF p q) (h' : smF p' q') : smF (moF p q p' q').1 (moF p q p' q').2 := by unfold moF; split <;> assumption
/-- A valid span. -/
def spOk (p q p' q' : Int) : Bool := fOk p q && fOk p' q' && decide (p * q' ≤ p' * q)
theorem spOk_iff {p q p' q' : Int} : spOk p q p' q' = true ↔ fOk p q = true ∧ fOk p' q' = true ∧ p * q' ≤ p' * q := by simp [spOk, and_assoc]
def s_vSpan : Spec := fun args S => match args, S with
  | [.agg [.int .i64 p, .int .i64 q, .int .i64 p', .int .i64 q']], [] => ⟨True, .bool (spOk p q p' q'), []⟩
  | _, _ => noSpec
theorem allF_two {p q p' q' : Int} : allF (seg [(p, q), (p', q')] 0 2) = (fOk p q && fOk p' q') := by simp [allF, seg]
theorem ok_ValidSpan : SpecOk Try.prog 36 s_vSpan := by
  intro args S h; unfold s_vSpan at h ⊢; (split at h <;> first | exact False.elim h | skip)
  dsimp only at h ⊢
  rename_i p q p' q'
  have hc := cmpF_le (p := p) (q := q) (p' := p') (q' := q')
  refine funW tabOk (E := [(70, s_allF), (38, s_cmp)]) ⟨ok_areValid, ok_compare, trivial⟩ [] (k := 0) (fn := Try.f36) rfl rfl rfl rfl rfl rfl ?_
  (repeat' ((try (conv => whnf)); first | (with_reducible first | refine And.intro ?_ ?_ | refine WX.of ?_) | exact zc | ((with_reducible refine VC.mk ?_); exact zw) | (with_reducible first | refine splitT ?_ | refine splitF ?_) | ((with_reducible refine splitM.mk (fun hsm => ?_) (fun hsm => ?_)) <;> (try exact zx)) | ((with_reducible refine splitB.mk (fun h => ?_) (fun h => ?_)) <;> (try simp only [zs, ne_eq] at h) <;> (try simp (disch := omega) only [w64] at h) <;> (try exact zx)) | (with_reducible intro hz; (try exact absurd hz (Nat.succ_ne_zero _)))))
  · exact ⟨⟨Nat.le_refl 2, by omega⟩⟩
  · rw [allF_two, Bool.and_eq_true] at h
    exact ⟨⟨smF_ok h.1, smF_ok h.2⟩⟩
  · rw [allF_two, Bool.and_eq_true] at h
    refine ⟨congrArg SV.bool ?_⟩
    simp only [hc]; simp [spOk, h]
  · rw [allF_two] at h
    refine ⟨congrArg SV.bool ?_⟩
    simp only [spOk, h]; rfl
end Go.Proofs.Ytbmejhabgoimeaa.Eng
set_option linter.unusedVariables false
set_option linter.unusedSimpArgs false
namespace Go.Proofs.Ytbmejhabgoimeaa.Eng
open Go Go.RowKit
set_option maxRecDepth 100000
abbrev ThT : Type := List UInt8 × (Int × Int) × (Int × Int)
theorem smF_1k : smF 1 1000 := by unfold smF; omega
def gwB (p q : Int) : Bool := fOk p q && decide (0 ≤ p) && decide (1000 * p ≤ q)
def s_gw : Spec := fun args S => match args, S with
  | [.agg [.int .i64 p, .int .i64 q]], [] => ⟨True, .bool (gwB p q), []⟩
  | _, _ => noSpec
theorem ok_isGrowth : SpecOk Try.prog 113 s_gw := by
  intro args S h; unfold s_gw at h ⊢; (split at h <;> first | exact False.elim h | skip)
  dsimp only at h ⊢
  rename_i p q
  have hc := cmpF_le (p := p) (q := q) (p' := 1) (q' := 1000)
  refine funW tabOk (E := [(37, s_fOk), (38, s_cmp)]) ⟨ok_ValidFrac, ok_compare, trivial⟩ [] (k := 0) (fn := Try.f113) rfl rfl rfl rfl rfl rfl ?_
  (repeat' ((try (conv => whnf)); first | (with_reducible first | refine And.intro ?_ ?_ | refine WX.of ?_) | exact zc | ((with_reducible refine VC.mk ?_); exact zw) | ((with_reducible refine VC.mk ?_); (exact ⟨smF_ok ‹_›, smF_1k⟩)) | (with_reducible first | refine splitT ?_ | refine splitF ?_) | ((with_reducible refine splitM.mk (fun hsm => ?_) (fun hsm => ?_)) <;> (try exact zx)) | ((with_reducible refine splitB.mk (fun h => ?_) (fun h => ?_)) <;> (try simp only [zs, ne_eq] at h) <;> (try simp (disch := omega) only [w64] at h) <;> (try exact zx)) | (with_reducible intro hz; (try exact absurd hz (Nat.succ_ne_zero _)))))
  all_goals (refine ⟨congrArg SV.bool ?_⟩; unfold gwB; first | (simp_all; done) | (rw [Bool.eq_iff_iff]; simp_all; omega))
theorem ok_l07Grows : SpecOk Try.prog 75 s_gw := by
  intro args S h; unfold s_gw at h ⊢; (split at h <;> first | exact False.elim h | skip)
  dsimp only at h ⊢
  rename_i p q
  have hf : fOk p q = true → smF p q := smF_ok
  unfold smF at hf
  refine funW tabOk (E := [(79, s_fOk)]) ⟨ok_l01Ok, trivial⟩ [] (k := 0) (fn := Try.f75) rfl rfl rfl rfl rfl rfl ?_
  (repeat' ((try (conv => whnf)); first | (with_reducible first | refine And.intro ?_ ?_ | refine WX.of ?_) | exact zc | ((with_reducible refine VC.mk ?_); exact zw) | (with_reducible first | refine splitT ?_ | refine splitF ?_) | ((with_reducible refine splitM.mk (fun hsm => ?_) (fun hsm => ?_)) <;> (try exact zx)) | ((with_reducible refine splitB.mk (fun h => ?_) (fun h => ?_)) <;> (try simp only [zs, ne_eq] at h) <;> (try simp (disch := omega) only [w64] at h) <;> (try exact zx)) | (with_reducible intro hz; (try exact absurd hz (Nat.succ_ne_zero _)))))
  all_goals (refine ⟨congrArg SV.bool ?_⟩; unfold gwB; first | (simp_all; done) | (have hf := hf (by assumption); (try simp (disch := omega) only [w64]); rw [Bool.eq_iff_iff]; simp_all; try omega))
def wiB (p q m : Int) : Bool := fOk p q && decide (0 < p) && decide (p ≤ m * q)
def s_wi : Spec := fun args S => match args, S with
  | [.agg [.int .i64 p, .int .i64 q], .int .i64 m], [] => ⟨-1000000000 ≤ m ∧ m ≤ 1000000000, .bool (wiB p q m), []⟩
  | _, _ => noSpec
theorem ok_l02Within : SpecOk Try.prog 77 s_wi := by
  intro args S h; unfold s_wi at h ⊢; (split at h <;> first | exact False.elim h | skip)
  dsimp only at h ⊢
  rename_i p q m
  have hc := cmpF_le (p := p) (q := q) (p' := m) (q' := 1)
  refine funW tabOk (E := [(79, s_fOk), (46, s_num), (105, s_cmp)]) ⟨ok_l01Ok, ok_l01Whole, ok_l01Cmp, trivial⟩ [(1, [(8, 2)])] (k := 0) (fn := Try.f77) rfl rfl rfl rfl rfl rfl ?_
  (repeat' ((try (conv => whnf)); first | (with_reducible first | refine And.intro ?_ ?_ | refine WX.of ?_) | exact zc | ((with_reducible refine VC.mk ?_); exact zw) | (with_reducible first | refine splitT ?_ | refine splitF ?_) | ((with_reducible refine splitM.mk (fun hsm => ?_) (fun hsm => ?_)) <;> (try exact zx)) | ((with_reducible refine splitB.mk (fun h => ?_) (fun h => ?_)) <;> (try simp only [zs, ne_eq] at h) <;> (try simp (disch := omega) only [w64] at h) <;> (try exact zx)) | (with_reducible intro hz; (try exact absurd hz (Nat.succ_ne_zero _)))))
  · exact ⟨⟨smF_ok (by assumption), smF_1 (by omega)⟩⟩
  · refine ⟨congrArg SV.bool ?_⟩
    simp only [hc]; simp_all [wiB]
  · refine ⟨congrArg SV.bool ?_⟩
    simp [wiB, show ¬ 0 < p by omega]
  · refine ⟨congrArg SV.bool ?_⟩
    simp [wiB, h]
def s_isUnit : Spec := fun args S => match args, S with
  | [.agg [.int .i64 p, .int .i64 q]], [] => ⟨smF p q, .bool (decide (0 < p) && decide (p ≤ 1000 * q)), []⟩
  | _, _ => noSpec
theorem ok_isUnit : SpecOk Try.prog 91 s_isUnit := by
  intro args S h; unfold s_isUnit at h ⊢; (split at h <;> first | exact False.elim h | skip)
  dsimp only at h ⊢
  rename_i p q
  have hc := cmpF_le (p := p) (q := q) (p' := 1000) (q' := 1)
  refine funW tabOk (E := [(26, s_num), (38, s_cmp)]) ⟨ok_num, ok_compare, trivial⟩ [(1, [(4, 1)])] (k := 0) (fn := Try.f91) rfl rfl rfl rfl rfl rfl ?_
  (repeat' ((try (conv => whnf)); first | (with_reducible first | refine And.intro ?_ ?_ | refine WX.of ?_) | exact zc | ((with_reducible refine VC.mk ?_); exact zw) | (with_reducible first | refine splitT ?_ | refine splitF ?_) | ((with_reducible refine splitM.mk (fun hsm => ?_) (fun hsm => ?_)) <;> (try exact zx)) | ((with_reducible refine splitB.mk (fun h => ?_) (fun h => ?_)) <;> (try simp only [zs, ne_eq] at h) <;> (try simp (disch := omega) only [w64] at h) <;> (try exact zx)) | (with_reducible intro hz; (try exact absurd hz (Nat.succ_ne_zero _)))))
  · exact ⟨⟨by assumption, smF_1 (by omega)⟩⟩
  · refine ⟨congrArg SV.bool ?_⟩
    simp only [hc]; simp_all
  · refine ⟨congrArg SV.bool ?_⟩
    simp [show ¬ 0 < p by omega]
def s_size : Spec := fun args S => match args, S with
  | [.agg [.int .i64 p, .int .i64 q]], [] => ⟨smF p q, .agg [.int .i64 (p.natAbs : Int), .int .i64 q], []⟩
  | _, _ => noSpec
theorem ok_size : SpecOk Try.prog 57 s_size := by
  intro args S h; unfold s_size at h ⊢; (split at h <;> first | exact False.elim h | skip)
  dsimp only at h ⊢
  rename_i p q
  unfold smF at h
  refine funW tabOk (E := []) trivial [] (k := 0) (fn := Try.f57) rfl rfl rfl rfl rfl rfl ?_
  (repeat' ((try (conv => whnf)); first | (with_reducible first | refine And.intro ?_ ?_ | refine WX.of ?_) | exact zc | ((with_reducible refine VC.mk ?_); exact zw) | (with_reducible first | refine splitT ?_ | refine splitF ?_) | ((with_reducible refine splitM.mk (fun hsm => ?_) (fun hsm => ?_)) <;> (try exact zx)) | ((with_reducible refine splitB.mk (fun h => ?_) (fun h => ?_)) <;> (try simp only [zs, ne_eq] at h) <;> (try simp (disch := omega) only [w64] at h) <;> (try exact zx)) | (with_reducible intro hz; (try exact absurd hz (Nat.succ_ne_zero _)))))
  refine ⟨?_⟩
  dsimp only
  rw [w64 (by omega)]
  have e : (if 0 - p > p then 0 - p else p) = (p.natAbs : Int) := by split <;> omega
  rw [e]
theorem ok_l07Name : SpecOk Try.prog 76 s_word := by
  intro args S h; unfold s_word at h ⊢; (split at h <;> first | exact False.elim h | skip)
  dsimp only at h ⊢
  rename_i s
  refine funW tabOk (E := []) trivial [] (k := 0) (fn := Try.f76) rfl rfl rfl rfl rfl rfl ?_
  (repeat' ((try (conv => whnf)); first | (with_reducible first | refine And.intro ?_ ?_ | refine WX.of ?_) | exact zc | ((with_reducible refine VC.mk ?_); exact zw) | (with_reducible first | refine splitT ?_ | refine splitF ?_) | ((with_reducible refine splitM.mk (fun hsm => ?_) (fun hsm => ?_)) <;> (try exact zx)) | ((with_reducible refine splitB.mk (fun h => ?_) (fun h => ?_)) <;> (try simp only [zs, ne_eq] at h) <;> (try simp (disch := omega) only [w64] at h) <;> (try exact zx)) | (with_reducible intro hz; (try exact absurd hz (Nat.succ_ne_zero _)))))
  refine loopW tabOk (E := []) trivial [] (σ := Nat) (fun i => [(0, .str s), (3, .int .i64 i)]) (fun i => []) (fun i => s.length - i) (fun i => i ≤ s.length ∧ ∀ (j : Nat) c, j < i → s[j]? = some c → letB c = true) 0 ⟨Nat.zero_le _, fun j a hj => by omega⟩ ?_ ?_
  · (repeat' ((try (conv => whnf)); first | (with_reducible first | refine And.intro ?_ ?_ | refine WX.of ?_) | exact zc | ((with_reducible refine VC.mk ?_); exact zw) | (with_reducible first | refine splitT ?_ | refine splitF ?_) | ((with_reducible refine splitM.mk (fun hsm => ?_) (fun hsm => ?_)) <;> (try exact zx)) | ((with_reducible refine splitB.mk (fun h => ?_) (fun h => ?_)) <;> (try simp only [zs, ne_eq] at h) <;> (try simp (disch := omega) only [w64] at h) <;> (try exact zx)) | (with_reducible intro hz; (try exact absurd hz (Nat.succ_ne_zero _)))))
  · intro i ⟨hi, hp⟩
    by_cases hlt : i < s.length
    · obtain ⟨c, hc⟩ := get_some (l := s) (i := i) (by omega)
      (repeat' ((try (conv => whnf)); first | (with_reducible first | refine And.intro ?_ ?_ | refine WX.of ?_) | exact zc | ((with_reducible refine VC.mk ?_); exact zw) | refine atL_n hc ?_ | (with_reducible first | refine splitT ?_ | refine splitF ?_) | ((with_reducible refine splitM.mk (fun hsm => ?_) (fun hsm => ?_)) <;> (try exact zx)) | ((with_reducible refine splitB.mk (fun h => ?_) (fun h => ?_)) <;> (try simp only [zs, ne_eq] at h) <;> (try simp (disch := omega) only [w64] at h) <;> (try exact zx)) | (with_reducible intro hz; (try exact absurd hz (Nat.succ_ne_zero _)))))
      · exact ⟨by rw [word_no hc (by unfold letB; rw [decide_eq_false]; omega)]⟩
      · exact ⟨by rw [word_no hc (by unfold letB; rw [decide_eq_false]; omega)]⟩
      · refine ⟨i + 1, by omega, ⟨hlt, upto_step hc (by unfold letB; rw [decide_eq_true]; omega) hp⟩, ?_⟩
        (repeat' ((try (conv => whnf)); first | (with_reducible first | refine And.intro ?_ ?_ | refine WX.of ?_) | exact zc | ((with_reducible refine VC.mk ?_); exact zw) | (with_reducible first | refine splitT ?_ | refine splitF ?_) | ((with_reducible refine splitM.mk (fun hsm => ?_) (fun hsm => ?_)) <;> (try exact zx)) | ((with_reducible refine splitB.mk (fun h => ?_) (fun h => ?_)) <;> (try simp only [zs, ne_eq] at h) <;> (try simp (disch := omega) only [w64] at h) <;> (try exact zx)) | (with_reducible intro hz; (try exact absurd hz (Nat.succ_ne_zero _)))))
    · (repeat' ((try (conv => whnf)); first | (with_reducible first | refine And.intro ?_ ?_ | refine WX.of ?_) | exact zc | ((with_reducible refine VC.mk ?_); exact zw) | (with_reducible first | refine splitT ?_ | refine splitF ?_) | ((with_reducible refine splitM.mk (fun hsm => ?_) (fun hsm => ?_)) <;> (try exact zx)) | ((with_reducible refine splitB.mk (fun h => ?_) (fun h => ?_)) <;> (try simp only [zs, ne_eq] at h) <;> (try simp (disch := omega) only [w64] at h) <;> (try exact zx)) | (with_reducible intro hz; (try exact absurd hz (Nat.succ_ne_zero _)))))
      · have ha := word_all fun j c hj => hp j c (by have := (List.getElem?_eq_some_iff.1 hj).1; omega) hj
        have hl : 1 ≤ s.length := by cases s with | nil => exact absurd rfl h | cons a r => simp
        refine ⟨congrArg SV.bool ?_⟩
        unfold wordB; rw [ha, Bool.and_true, decide_eq_decide]; omega
      · subst h; exact ⟨congrArg SV.bool (by simp [wordB])⟩
def s_ver : Spec := fun args S => match args, S with
  | [.agg [.int .i64 p, .bool b]], [] => ⟨True, .bool (decide (2 ≤ p ∧ p ≤ 40)), []⟩
  | _, _ => noSpec
theorem ok_ValidVernier : SpecOk Try.prog 114 s_ver := by
  intro args S h; unfold s_ver at h ⊢; (split at h <;> first | exact False.elim h | skip)
  dsimp only at h ⊢
  refine funW tabOk (E := [(71, s_within)]) ⟨ok_within, trivial⟩ [] (k := 0) (fn := Try.f114) rfl rfl rfl rfl rfl rfl ?_
  (repeat' ((try (conv => whnf)); first | (with_reducible first | refine And.intro ?_ ?_ | refine WX.of ?_) | exact zc | ((with_reducible refine VC.mk ?_); exact zw) | (with_reducible first | refine splitT ?_ | refine splitF ?_) | ((with_reducible refine splitM.mk (fun hsm => ?_) (fun hsm => ?_)) <;> (try exact zx)) | ((with_reducible refine splitB.mk (fun h => ?_) (fun h => ?_)) <;> (try simp only [zs, ne_eq] at h) <;> (try simp (disch := omega) only [w64] at h) <;> (try exact zx)) | (with_reducible intro hz; (try exact absurd hz (Nat.succ_ne_zero _)))))
/-- A valid scale. -/
def mkOk (up uq : Int) (k : Nat) (e : Int × Int) : Bool := redOk (k * up) (1 * uq) && redOk (tolP (k * up) (1 * uq) * e.2 + e.1 * tolQ (k * up) (1 * uq)) (tolQ (k * up) (1 * uq) * e.2)
def elB (up uq : Int) (k : Nat) (e : Int × Int) : Bool := fOk e.1 e.2 && decide (4 * (e.1.natAbs : Int) * uq ≤ up * e.2) && mkOk up uq k e
def scB (up uq : Int) (E : List (Int × Int)) : Bool := fOk up uq && (decide (0 < up) && decide (up ≤ 1000 * uq)) && decide (2 ≤ E.length ∧ E.length ≤ 60) && allI (0, 0) (elB up uq) E
theorem fallF_at {L : List (Int × Int)} {k : Nat} {a : Int × Int} (h : allF L = true) (ha : L[k]? = some a) : fOk a.1 a.2 = true := List.all_eq_true.1 h a (List.mem_of_getElem? ha)
theorem sc_no {up uq : Int} {E : List (Int × Int)} {k : Nat} {a : Int × Int} (ha : E[k]? = some a) (h : elB up uq k a = false) : scB up uq E = false := by
  unfold scB; rw [allI_no ha h, Bool.and_false]
theorem sc_yes {up uq : Int} {E : List (Int × Int)} {n : Nat} (hn : E.length = n) (h1 : fOk up uq = true) (h2 : 0 < up ∧ up ≤ 1000 * uq) (h3 : 2 ≤ n ∧ n ≤ 60) (h : ∀ (k : Nat) a, k < n → E[k]? = some a → elB up uq k a = true) : scB up uq E = true := by
  unfold scB; rw [allI_yes hn h, h1, decide_eq_true h2.1, decide_eq_true h2.2, decide_eq_true (by omega)]; rfl
theorem quad {up uq p q : Int} (h1 : smF up uq) (h2 : smF p q) : (-4000000000000000000 ≤ 4 * (p.natAbs : Int) * uq ∧ 4 * (p.natAbs : Int) * uq ≤ 4000000000000000000) ∧ -1000000000000000000 ≤ up * q ∧ up * q ≤ 1000000000000000000 := by
  unfold smF at h1 h2
  have e1 := mulB (a := (p.natAbs : Int)) (b := uq) (by omega) (by omega)
  have e2 := mulB (a := up) (b := q) (by omega) (by omega)
  rw [Int.mul_assoc]
  omega
def s_vScale : Spec := fun args S => match args, S with
  | [.agg [.int .i64 up, .int .i64 uq, .sl 0 s n x]], [.arr (.prod (.int .i64) (.int .i64)) l 2 wr] => ⟨s + n ≤ l.length ∧ n ≤ 1048576, .bool (scB up uq (seg l s n)), [.arr (.prod (.int .i64) (.int .i64)) l 2 wr]⟩
  | _, _ => noSpec
theorem ok_ValidScale : SpecOk Try.prog 56 s_vScale := by
  intro args S h; unfold s_vScale at h ⊢; (split at h <;> first | exact False.elim h | skip)
  dsimp only at h ⊢
  rename_i up uq s n x l wr
  have hL := seg_len h.1
  refine funW tabOk (E := [(37, s_fOk), (91, s_isUnit), (71, s_within), (70, s_allF), (57, s_size), (26, s_num), (54, s_mul), (53, s_add)]) ⟨ok_ValidFrac, ok_isUnit, ok_within, ok_areValid, ok_size, ok_num, ok_mul, ok_add, trivial⟩ [(7, [(6, 0), (10, 0), (12, 0)]), (9, [(5, 0), (7, 0), (7, 1)])] (k := 1) (fn := Try.f56) rfl rfl rfl rfl rfl rfl ?_
  (repeat' ((try (conv => whnf)); first | (with_reducible first | refine And.intro ?_ ?_ | refine WX.of ?_) | exact zc | ((with_reducible refine VC.mk ?_); exact zw) | ((with_reducible refine VC.mk ?_); (exact smF_ok ‹_›)) | (with_reducible first | refine splitT ?_ | refine splitF ?_) | ((with_reducible refine splitM.mk (fun hsm => ?_) (fun hsm => ?_)) <;> (try exact zx)) | ((with_reducible refine splitB.mk (fun h => ?_) (fun h => ?_)) <;> (try simp only [zs, ne_eq] at h) <;> (try simp (disch := omega) only [w64] at h) <;> (try exact zx)) | (with_reducible intro hz; (try exact absurd hz (Nat.succ_ne_zero _)))))
  · exact ⟨congrArg SV.bool (by simp [scB, h])⟩
  · exact ⟨congrArg SV.bool (by simp only [scB, h, Bool.and_false, Bool.false_and])⟩
  · exact ⟨congrArg SV.bool (by unfold scB; rw [hL, show decide (2 ≤ n ∧ n ≤ 60) = false from decide_eq_false (by omega), Bool.and_false, Bool.false_and])⟩
  · refine ⟨congrArg SV.bool ?_⟩
    unfold allF at h
    rw [List.all_eq_false] at h
    obtain ⟨a, ha, hb⟩ := h
    obtain ⟨j, hj⟩ := List.getElem?_of_mem ha
    rw [sc_no hj (by unfold elB; simp at hb; simp [hb])]
  · rename_i hU hu hn
    have hV := h
    have hsU := smF_ok hU
    have hu2 : 0 < up ∧ up ≤ 1000 * uq := by simpa using hu
    refine loopW tabOk (E := [(37, s_fOk), (91, s_isUnit), (71, s_within), (70, s_allF), (57, s_size), (26, s_num), (54, s_mul), (53, s_add)]) ⟨ok_ValidFrac, ok_isUnit, ok_within, ok_areValid, ok_size, ok_num, ok_mul, ok_add, trivial⟩ [(7, [(6, 0), (10, 0), (12, 0)]), (9, [(5, 0), (7, 0), (7, 1)])] (σ := Nat) (fun i => [(1, .ptr 1 0 0), (3, .ptr 2 0 0), (32, .sl 0 s n x), (33, .int .i64 n), (34, .int .i64 i)]) (fun i => [.arr (.prod (.int .i64) (.int .i64)) l 2 wr, .box [.int .i64 up, .int .i64 uq, .sl 0 s n x] true false, .arr .bool [!allI (0, 0) (mkOk up uq) ((seg l s n).take i)] 0 true]) (fun i => n - i) (fun i => i ≤ n ∧ ∀ (j : Nat) (a : Int × Int), j < i → (seg l s n)[j]? = some a → (fOk a.1 a.2 && decide (4 * (a.1.natAbs : Int) * uq ≤ up * a.2)) = true) 0 ⟨Nat.zero_le _, fun j a hj => by omega⟩ ?_ ?_
    · (repeat' ((try (conv => whnf)); first | (with_reducible first | refine And.intro ?_ ?_ | refine WX.of ?_) | exact zc | ((with_reducible refine VC.mk ?_); exact zw) | (with_reducible first | refine splitT ?_ | refine splitF ?_) | ((with_reducible refine splitM.mk (fun hsm => ?_) (fun hsm => ?_)) <;> (try exact zx)) | ((with_reducible refine splitB.mk (fun h => ?_) (fun h => ?_)) <;> (try simp only [zs, ne_eq] at h) <;> (try simp (disch := omega) only [w64] at h) <;> (try exact zx)) | (with_reducible intro hz; (try exact absurd hz (Nat.succ_ne_zero _)))))
    · intro i ⟨hi, hp⟩
      by_cases hlt : i < n
      · obtain ⟨⟨p, q⟩, ha⟩ := get_some (l := seg l s n) (i := i) (by omega)
        have hf : fOk p q = true := fallF_at hV ha
        have hsf := smF_ok hf
        have hsb := hsf
        unfold smF at hsb
        have hq4 := quad hsU hsf
        have hk : smF (i : Int) 1 := smF_1 (by omega)
        have ht := smF_tol ((i : Int) * up) (1 * uq)
        (repeat' ((try (conv => whnf)); first | (with_reducible first | refine And.intro ?_ ?_ | refine WX.of ?_) | exact zc | ((with_reducible refine VC.mk ?_); exact zw) | with_reducible refine atL_i ha ?_ | ((with_reducible refine VC.mk ?_); exact hsf) | ((with_reducible refine VC.mk ?_); exact ⟨rfl, hk, hsU⟩) | ((with_reducible refine VC.mk ?_); exact ⟨rfl, ht, hsf⟩) | (with_reducible first | refine splitT ?_ | refine splitF ?_) | ((with_reducible refine splitM.mk (fun hsm => ?_) (fun hsm => ?_)) <;> (try exact zx)) | ((with_reducible refine splitB.mk (fun h => ?_) (fun h => ?_)) <;> (try simp only [zs, ne_eq] at h) <;> (try simp (disch := omega) only [w64] at h) <;> (try exact zx)) | (with_reducible intro hz; (try exact absurd hz (Nat.succ_ne_zero _)))))
        · have hd : decide (4 * (p.natAbs : Int) * uq ≤ up * q) = false := decide_eq_false (by omega)
          exact ⟨congrArg SV.bool (by rw [sc_no ha (by unfold elB; dsimp only; rw [hd, Bool.and_false, Bool.false_and])])⟩
        · have hd : decide (4 * (p.natAbs : Int) * uq ≤ up * q) = true := decide_eq_true (by omega)
          refine ⟨i + 1, by omega, ⟨hlt, upto_step ha (by dsimp only; rw [hf, hd]; rfl) hp⟩, ?_⟩
          (repeat' ((try (conv => whnf)); first | (with_reducible first | refine And.intro ?_ ?_ | refine WX.of ?_) | exact zc | ((with_reducible refine VC.mk ?_); exact zw) | (with_reducible first | refine splitT ?_ | refine splitF ?_) | ((with_reducible refine splitM.mk (fun hsm => ?_) (fun hsm => ?_)) <;> (try exact zx)) | ((with_reducible refine splitB.mk (fun h => ?_) (fun h => ?_)) <;> (try simp only [zs, ne_eq] at h) <;> (try simp (disch := omega) only [w64] at h) <;> (try exact zx)) | (with_reducible intro hz; (try exact absurd hz (Nat.succ_ne_zero _)))))
          refine ⟨?_⟩
          rw [allI_snoc ha]
          simp [mkOk, Bool.or_assoc]
      · obtain rfl : i = n := by omega
        rw [List.take_of_length_le (by omega)]
        (repeat' ((try (conv => whnf)); first | (with_reducible first | refine And.intro ?_ ?_ | refine WX.of ?_) | exact zc | ((with_reducible refine VC.mk ?_); exact zw) | (with_reducible first | refine splitT ?_ | refine splitF ?_) | ((with_reducible refine splitM.mk (fun hsm => ?_) (fun hsm => ?_)) <;> (try exact zx)) | ((with_reducible refine splitB.mk (fun h => ?_) (fun h => ?_)) <;> (try simp only [zs, ne_eq] at h) <;> (try simp (disch := omega) only [w64] at h) <;> (try exact zx)) | (with_reducible intro hz; (try exact absurd hz (Nat.succ_ne_zero _)))))
        refine ⟨congrArg SV.bool ?_⟩
        rw [Bool.not_not]
        cases hm : allI (0, 0) (mkOk up uq) (seg l s i) with
        | true => exact (sc_yes hL hU hu2 (by omega) (fun k a hk ha => by unfold elB; rw [hp k a hk ha, allI_at hm ha]; rfl)).symm
        | false =>
          cases hs : scB up uq (seg l s i) with
          | false => rfl
          | true =>
            unfold scB at hs
            rw [Bool.and_eq_true] at hs
            have : allI (0, 0) (mkOk up uq) (seg l s i) = true := allI_iff.2 fun k a ha => by
              have := allI_at hs.2 ha
              unfold elB at this
              rw [Bool.and_eq_true] at this
              exact this.2
            rw [this] at hm; simp at hm
end Go.Proofs.Ytbmejhabgoimeaa.Eng
set_option linter.unusedVariables false
set_option linter.unusedSimpArgs false
namespace Go.Proofs.Ytbmejhabgoimeaa.Eng
open Go Go.RowKit
set_option maxRecDepth 100000
def s_l02Ver : Spec := fun args S => match args, S with
  | [.ptr 0 0 3], [.box [.int .i64 up, .int .i64 uq, .sl 1 s n x, .int .i64 vp, .bool vb, .int .i64 gp, .int .i64 gq, .sl 2 t m y] true false, .arr (.prod (.int .i64) (.int .i64)) l 2 wr, .arr (.prod .str (.prod (.prod (.int .i64) (.int .i64)) (.prod (.int .i64) (.int .i64)))) T 5 wT] => ⟨True, .bool (decide (2 ≤ vp ∧ vp ≤ 40)), [.box [.int .i64 up, .int .i64 uq, .sl 1 s n x, .int .i64 vp, .bool vb, .int .i64 gp, .int .i64 gq, .sl 2 t m y] true false, .arr (.prod (.int .i64) (.int .i64)) l 2 wr, .arr (.prod .str (.prod (.prod (.int .i64) (.int .i64)) (.prod (.int .i64) (.int .i64)))) T 5 wT]⟩
  | _, _ => noSpec
theorem ok_l02Vernier : SpecOk Try.prog 74 s_l02Ver := by
  intro args S h; unfold s_l02Ver at h ⊢; (split at h <;> first | exact False.elim h | skip)
  dsimp only at h ⊢
  refine funW tabOk (E := [(78, s_within)]) ⟨ok_l00In, trivial⟩ [] (k := 3) (fn := Try.f74) rfl rfl rfl rfl rfl rfl ?_
  (repeat' ((try (conv => whnf)); first | (with_reducible first | refine And.intro ?_ ?_ | refine WX.of ?_) | exact zc | ((with_reducible refine VC.mk ?_); exact zw) | (with_reducible first | refine splitT ?_ | refine splitF ?_) | ((with_reducible refine splitM.mk (fun hsm => ?_) (fun hsm => ?_)) <;> (try exact zx)) | ((with_reducible refine splitB.mk (fun h => ?_) (fun h => ?_)) <;> (try simp only [zs, ne_eq] at h) <;> (try simp (disch := omega) only [w64] at h) <;> (try exact zx)) | (with_reducible intro hz; (try exact absurd hz (Nat.succ_ne_zero _)))))
def mkC (up uq : Int) (k : Int) (e : Int × Int) : Int := if redOk (k * up) (1 * uq) = true then rdC (rdP (k * up) (1 * uq) * e.2 + e.1 * rdQ (k * up) (1 * uq)) (rdQ (k * up) (1 * uq) * e.2) else 3
def mkP (up uq : Int) (k : Int) (e : Int × Int) : Int := if redOk (k * up) (1 * uq) = true then rdP (rdP (k * up) (1 * uq) * e.2 + e.1 * rdQ (k * up) (1 * uq)) (rdQ (k * up) (1 * uq) * e.2) else 0
def mkQ (up uq : Int) (k : Int) (e : Int × Int) : Int := if redOk (k * up) (1 * uq) = true then rdQ (rdP (k * up) (1 * uq) * e.2 + e.1 * rdQ (k * up) (1 * uq)) (rdQ (k * up) (1 * uq) * e.2) else 0
theorem mkC_ok {up uq : Int} {k : Nat} {e : Int × Int} : mkC up uq k e = 0 ↔ mkOk up uq k e = true := by
  unfold mkC mkOk rdC rdP rdQ tolP tolQ
  cases h : redOk ((k : Int) * up) (1 * uq)
  · simp
  · simp only [if_true, Bool.true_and]
    split <;> simp_all
def s_l02Mark : Spec := fun args S => match args, S with
  | [.ptr 0 0 0, .int .i64 k], [.box [.int .i64 up, .int .i64 uq, .sl 1 s n x, .int .i64 vp, .bool vb, .int .i64 gp, .int .i64 gq, .sl 2 t m y] true false, .arr (.prod (.int .i64) (.int .i64)) l 2 wr, .arr (.prod .str (.prod (.prod (.int .i64) (.int .i64)) (.prod (.int .i64) (.int .i64)))) T 5 wT] => ⟨(s + n ≤ l.length ∧ n ≤ 1048576) ∧ (0 ≤ k ∧ k < n ∧ n ≤ 60) ∧ smF up uq ∧ ∀ a, (seg l s n)[k.toNat]? = some a → smF a.1 a.2, .tup [.agg [.int .i64 (mkP up uq k (((seg l s n)[k.toNat]?).getD (0, 0))), .int .i64 (mkQ up uq k (((seg l s n)[k.toNat]?).getD (0, 0)))], .int .i64 (mkC up uq k (((seg l s n)[k.toNat]?).getD (0, 0)))], [.box [.int .i64 up, .int .i64 uq, .sl 1 s n x, .int .i64 vp, .bool vb, .int .i64 gp, .int .i64 gq, .sl 2 t m y] true false, .arr (.prod (.int .i64) (.int .i64)) l 2 wr, .arr (.prod .str (.prod (.prod (.int .i64) (.int .i64)) (.prod (.int .i64) (.int .i64)))) T 5 wT]⟩
  | _, _ => noSpec
theorem ok_l02Mark : SpecOk Try.prog 104 s_l02Mark := by
  intro args S h; unfold s_l02Mark at h ⊢; (split at h <;> first | exact False.elim h | skip)
  dsimp only at h ⊢
  rename_i k up uq s n x vp vb gp gq t m y l wr T wT
  obtain ⟨⟨h1, h2⟩, ⟨h3, h4, h5⟩, h6, h7⟩ := h
  have hL := seg_len h1
  obtain ⟨⟨p, q⟩, ha⟩ := get_some (l := seg l s n) (i := k.toNat) (by omega)
  have hs := h7 _ ha
  dsimp only at hs
  have e : ((seg l s n)[k.toNat]?).getD (0, 0) = (p, q) := by rw [ha]; rfl
  rw [e]
  have hk : smF k 1 := smF_1 (by omega)
  have hr : redOk (k * up) (1 * uq) = true → smF (rdP (k * up) (1 * uq)) (rdQ (k * up) (1 * uq)) := fun h => by
    unfold rdP rdQ; rw [if_pos h, if_pos h]; exact smF_ok h
  have hkk : ((k.toNat : Nat) : Int) = k := Int.toNat_of_nonneg h3
  refine funW tabOk (E := [(46, s_num), (81, s_mulS), (82, s_addS)]) ⟨ok_l01Whole, ok_l01Mul, ok_l01Add, trivial⟩ [(1, [(5, 0), (10, 0), (10, 1)])] (k := 3) (fn := Try.f104) rfl rfl rfl rfl rfl rfl ?_
  (repeat' ((try (conv => whnf)); first | (with_reducible first | refine And.intro ?_ ?_ | refine WX.of ?_) | exact zc | ((with_reducible refine VC.mk ?_); exact zw) | ((with_reducible refine VC.mk ?_); exact ⟨hk, h6⟩) | (with_reducible first | refine splitT ?_ | refine splitF ?_) | ((with_reducible refine splitM.mk (fun hsm => ?_) (fun hsm => ?_)) <;> (try exact zx)) | ((with_reducible refine splitB.mk (fun h => ?_) (fun h => ?_)) <;> (try simp only [zs, ne_eq] at h) <;> (try simp (disch := omega) only [w64] at h) <;> (try exact zx)) | (with_reducible intro hz; (try exact absurd hz (Nat.succ_ne_zero _)))))
  · have hb : redOk (k * up) (1 * uq) = false := by
      unfold rdC at h; cases hb : redOk (k * up) (1 * uq) <;> simp_all
    exact ⟨by simp only [mkP, mkQ, mkC, rdC, hb, if_false, Bool.false_eq_true]⟩
  · have hb : redOk (k * up) (1 * uq) = true := by
      unfold rdC at h; cases hb : redOk (k * up) (1 * uq) <;> simp_all
    (repeat' ((try (conv => whnf)); first | (with_reducible first | refine And.intro ?_ ?_ | refine WX.of ?_) | exact zc | ((with_reducible refine VC.mk ?_); exact zw) | with_reducible refine atL_p (seg_get ha).1 ?_ | ((with_reducible refine VC.mk ?_); exact ⟨hr hb, hs⟩) | (with_reducible first | refine splitT ?_ | refine splitF ?_) | ((with_reducible refine splitM.mk (fun hsm => ?_) (fun hsm => ?_)) <;> (try exact zx)) | ((with_reducible refine splitB.mk (fun h => ?_) (fun h => ?_)) <;> (try simp only [zs, ne_eq] at h) <;> (try simp (disch := omega) only [w64] at h) <;> (try exact zx)) | (with_reducible intro hz; (try exact absurd hz (Nat.succ_ne_zero _)))))
    all_goals exact ⟨by simp only [mkP, mkQ, mkC, hb, if_true]⟩
def s_l02Ok : Spec := fun args S => match args, S with
  | [.ptr 0 0 0], [.box [.int .i64 up, .int .i64 uq, .sl 1 s n x, .int .i64 vp, .bool vb, .int .i64 gp, .int .i64 gq, .sl 2 t m y] true false, .arr (.prod (.int .i64) (.int .i64)) l 2 wr, .arr (.prod .str (.prod (.prod (.int .i64) (.int .i64)) (.prod (.int .i64) (.int .i64)))) T 5 wT] => ⟨s + n ≤ l.length ∧ n ≤ 1048576, .bool (scB up uq (seg l s n)), [.box [.int .i64 up, .int .i64 uq, .sl 1 s n x, .int .i64 vp, .bool vb, .int .i64 gp, .int .i64 gq, .sl 2 t m y] true false, .arr (.prod (.int .i64) (.int .i64)) l 2 wr, .arr (.prod .str (.prod (.prod (.int .i64) (.int .i64)) (.prod (.int .i64) (.int .i64)))) T 5 wT]⟩
  | _, _ => noSpec
theorem ok_l02Ok : SpecOk Try.prog 73 s_l02Ok := by
  intro args S h; unfold s_l02Ok at h ⊢; (split at h <;> first | exact False.elim h | skip)
  dsimp only at h ⊢
  rename_i up uq s n x vp vb gp gq t m y l wr T wT
  obtain ⟨h1, h2⟩ := h
  have hL := seg_len h1
  refine funW tabOk (E := [(77, s_wi), (78, s_within), (79, s_fOk), (80, s_abs), (104, s_l02Mark)]) ⟨ok_l02Within, ok_l00In, ok_l01Ok, ok_l01Abs, ok_l02Mark, trivial⟩ [(7, [(12, 1), (18, 1), (20, 1)])] (k := 3) (fn := Try.f73) rfl rfl rfl rfl rfl rfl ?_
  (repeat' ((try (conv => whnf)); first | (with_reducible first | refine And.intro ?_ ?_ | refine WX.of ?_) | exact zc | ((with_reducible refine VC.mk ?_); exact zw) | (with_reducible first | refine splitT ?_ | refine splitF ?_) | ((with_reducible refine splitM.mk (fun hsm => ?_) (fun hsm => ?_)) <;> (try exact zx)) | ((with_reducible refine splitB.mk (fun h => ?_) (fun h => ?_)) <;> (try simp only [zs, ne_eq] at h) <;> (try simp (disch := omega) only [w64] at h) <;> (try exact zx)) | (with_reducible intro hz; (try exact absurd hz (Nat.succ_ne_zero _)))))
  · exact ⟨congrArg SV.bool (by unfold wiB at h; unfold scB; rw [← Bool.and_assoc (fOk up uq), h, Bool.false_and, Bool.false_and])⟩
  · rename_i hw
    exact ⟨congrArg SV.bool (by unfold scB; rw [hL, show decide (2 ≤ n ∧ n ≤ 60) = false from decide_eq_false (by omega), Bool.and_false, Bool.false_and])⟩
  · rename_i hw
    have hn := h
    have hw2 : fOk up uq = true ∧ 0 < up ∧ up ≤ 1000 * uq := by simpa [wiB, and_assoc] using hw
    have hsU := smF_ok hw2.1
    have hU := hsU
    unfold smF at hU
    refine loopW tabOk (E := [(77, s_wi), (78, s_within), (79, s_fOk), (80, s_abs), (104, s_l02Mark)]) ⟨ok_l02Within, ok_l00In, ok_l01Ok, ok_l01Abs, ok_l02Mark, trivial⟩ [(7, [(12, 1), (18, 1), (20, 1)])] (σ := Nat) (fun i => [(0, .ptr 0 0 0), (3, .int .i64 i)]) (fun i => [.box [.int .i64 up, .int .i64 uq, .sl 1 s n x, .int .i64 vp, .bool vb, .int .i64 gp, .int .i64 gq, .sl 2 t m y] true false, .arr (.prod (.int .i64) (.int .i64)) l 2 wr, .arr (.prod .str (.prod (.prod (.int .i64) (.int .i64)) (.prod (.int .i64) (.int .i64)))) T 5 wT]) (fun i => n - i) (fun i => i ≤ n ∧ ∀ (j : Nat) (a : Int × Int), j < i → (seg l s n)[j]? = some a → elB up uq j a = true) 0 ⟨Nat.zero_le _, fun j a hj => by omega⟩ ?_ ?_
    · (repeat' ((try (conv => whnf)); first | (with_reducible first | refine And.intro ?_ ?_ | refine WX.of ?_) | exact zc | ((with_reducible refine VC.mk ?_); exact zw) | (with_reducible first | refine splitT ?_ | refine splitF ?_) | ((with_reducible refine splitM.mk (fun hsm => ?_) (fun hsm => ?_)) <;> (try exact zx)) | ((with_reducible refine splitB.mk (fun h => ?_) (fun h => ?_)) <;> (try simp only [zs, ne_eq] at h) <;> (try simp (disch := omega) only [w64] at h) <;> (try exact zx)) | (with_reducible intro hz; (try exact absurd hz (Nat.succ_ne_zero _)))))
    · intro i ⟨hi, hp⟩
      by_cases hlt : i < n
      · obtain ⟨⟨p, q⟩, ha⟩ := get_some (l := seg l s n) (i := i) (by omega)
        have e : ((seg l s n)[((i : Nat) : Int).toNat]?).getD (0, 0) = (p, q) := by rw [Int.toNat_natCast, ha]; rfl
        by_cases hf : fOk p q = true
        · have hsf := smF_ok hf
          have hsb := hsf
          unfold smF at hsb
          have hq4 := quad hsU hsf
          have hall : ∀ a, (seg l s n)[((i : Nat) : Int).toNat]? = some a → smF a.1 a.2 := fun a h => by
            rw [Int.toNat_natCast, ha] at h; obtain rfl := Option.some.inj h; exact hsf
          (repeat' ((try (conv => whnf)); first | (with_reducible first | refine And.intro ?_ ?_ | refine WX.of ?_) | exact zc | ((with_reducible refine VC.mk ?_); exact zw) | with_reducible refine atL_i ha ?_ | ((with_reducible refine splitT_of ?_ ?_); (focus (simp only [hf, Bool.not_true, Bool.not_false, decide_true, decide_false]; done))) | ((with_reducible refine splitF_of ?_ ?_); (focus (simp only [hf, Bool.not_true, Bool.not_false, decide_true, decide_false]; done))) | ((with_reducible refine VC.mk ?_); (refine ⟨⟨h1, h2⟩, ?_, hsU, hall⟩); omega) | (with_reducible first | refine splitT ?_ | refine splitF ?_) | ((with_reducible refine splitM.mk (fun hsm => ?_) (fun hsm => ?_)) <;> (try exact zx)) | ((with_reducible refine splitB.mk (fun h => ?_) (fun h => ?_)) <;> (try simp only [zs, ne_eq] at h) <;> (try simp (disch := omega) only [w64] at h) <;> (try exact zx)) | (with_reducible intro hz; (try exact absurd hz (Nat.succ_ne_zero _)))))
          · exact ⟨congrArg SV.bool (by rw [sc_no ha (by unfold elB; dsimp only; rw [show decide (4 * (p.natAbs : Int) * uq ≤ up * q) = false from decide_eq_false (by omega), Bool.and_false, Bool.false_and])])⟩
          · rw [e] at h
            have hm : mkOk up uq i (p, q) = false := by
              cases hm : mkOk up uq i (p, q) with
              | false => rfl
              | true => exact absurd (mkC_ok.2 hm) h
            exact ⟨congrArg SV.bool (by rw [sc_no ha (by unfold elB; rw [hm, Bool.and_false])])⟩
          · rw [e] at h
            have hm := mkC_ok.1 h
            have hd : decide (4 * (p.natAbs : Int) * uq ≤ up * q) = true := decide_eq_true (by omega)
            have hel : elB up uq i (p, q) = true := by unfold elB; rw [hm]; dsimp only; rw [hf, hd]; rfl
            refine ⟨i + 1, by omega, ⟨hlt, upto_step2 ha hel hp⟩, ?_⟩
            (repeat' ((try (conv => whnf)); first | (with_reducible first | refine And.intro ?_ ?_ | refine WX.of ?_) | exact zc | ((with_reducible refine VC.mk ?_); exact zw) | (with_reducible first | refine splitT ?_ | refine splitF ?_) | ((with_reducible refine splitM.mk (fun hsm => ?_) (fun hsm => ?_)) <;> (try exact zx)) | ((with_reducible refine splitB.mk (fun h => ?_) (fun h => ?_)) <;> (try simp only [zs, ne_eq] at h) <;> (try simp (disch := omega) only [w64] at h) <;> (try exact zx)) | (with_reducible intro hz; (try exact absurd hz (Nat.succ_ne_zero _)))))
        · have hf : fOk p q = false := by simpa using hf
          (repeat' ((try (conv => whnf)); first | (with_reducible first | refine And.intro ?_ ?_ | refine WX.of ?_) | exact zc | ((with_reducible refine VC.mk ?_); exact zw) | with_reducible refine atL_i ha ?_ | ((with_reducible refine splitT_of ?_ ?_); (focus (simp only [hf, Bool.not_true, Bool.not_false, decide_true, decide_false]; done))) | ((with_reducible refine splitF_of ?_ ?_); (focus (simp only [hf, Bool.not_true, Bool.not_false, decide_true, decide_false]; done))) | (with_reducible first | refine splitT ?_ | refine splitF ?_) | ((with_reducible refine splitM.mk (fun hsm => ?_) (fun hsm => ?_)) <;> (try exact zx)) | ((with_reducible refine splitB.mk (fun h => ?_) (fun h => ?_)) <;> (try simp only [zs, ne_eq] at h) <;> (try simp (disch := omega) only [w64] at h) <;> (try exact zx)) | (with_reducible intro hz; (try exact absurd hz (Nat.succ_ne_zero _)))))
          all_goals exact ⟨congrArg SV.bool (by rw [sc_no ha (by unfold elB; dsimp only; rw [hf, Bool.false_and, Bool.false_and])])⟩
      · obtain rfl : i = n := by omega
        (repeat' ((try (conv => whnf)); first | (with_reducible first | refine And.intro ?_ ?_ | refine WX.of ?_) | exact zc | ((with_reducible refine VC.mk ?_); exact zw) | (with_reducible first | refine splitT ?_ | refine splitF ?_) | ((with_reducible refine splitM.mk (fun hsm => ?_) (fun hsm => ?_)) <;> (try exact zx)) | ((with_reducible refine splitB.mk (fun h => ?_) (fun h => ?_)) <;> (try simp only [zs, ne_eq] at h) <;> (try simp (disch := omega) only [w64] at h) <;> (try exact zx)) | (with_reducible intro hz; (try exact absurd hz (Nat.succ_ne_zero _)))))
        exact ⟨congrArg SV.bool (sc_yes hL hw2.1 hw2.2 (by omega) hp).symm⟩
/-- A valid thing, and things with names of their own. -/
def thB (T : List ThT) (i : Nat) (x : ThT) : Bool := (wordB x.1 && !((T.take i).any fun o => decide (o.1 = x.1))) && (wiB x.2.1.1 x.2.1.2 100000 && gwB x.2.2.1 x.2.2.2)
def bnB (up uq vp gp gq : Int) (E : List (Int × Int)) (T : List ThT) : Bool := (scB up uq E && decide (2 ≤ vp ∧ vp ≤ 40) && gwB gp gq && decide (T.length ≤ 10)) && allI ([], (0, 0), 0, 0) (thB T) T
theorem bn_no {up uq vp gp gq : Int} {E : List (Int × Int)} {T : List ThT} {k : Nat} {a : ThT} (ha : T[k]? = some a) (h : thB T k a = false) : bnB up uq vp gp gq E T = false := by
  unfold bnB; rw [allI_no ha h, Bool.and_false]
theorem bn_yes {up uq vp gp gq : Int} {E : List (Int × Int)} {T : List ThT} (h : ∀ (k : Nat) a, T[k]? = some a → thB T k a = true) : bnB up uq vp gp gq E T = (scB up uq E && decide (2 ≤ vp ∧ vp ≤ 40) && gwB gp gq && decide (T.length ≤ 10)) := by
  unfold bnB; rw [allI_iff.2 h, Bool.and_true]
theorem wi_no0 {p q m : Int} (h : fOk p q = false) : wiB p q m = false := by simp [wiB, h]
theorem wi_no1 {p q m : Int} (h : p ≤ 0) : wiB p q m = false := by simp [wiB, show ¬ 0 < p by omega]
theorem wi_no2 {p q m : Int} (h : 0 < cmpF p q m 1) : wiB p q m = false := by
  have := cmpF_gt.1 h
  simp [wiB, show ¬ p ≤ m * q by omega]
theorem wi_yes {p q m : Int} (hf : fOk p q = true) (h0 : 0 < p) (h : cmpF p q m 1 ≤ 0) : wiB p q m = true := by
  have := cmpF_le.1 h
  simp [wiB, hf, h0, show p ≤ m * q by omega]
def s_cl1 : Spec := fun args S => match args, S with
  | [.agg [.str nm, .int .i64 p, .int .i64 q, .int .i64 r, .int .i64 s], .ptr 0 0 0], [.arr (.prod .str (.prod (.prod (.int .i64) (.int .i64)) (.prod (.int .i64) (.int .i64)))) [o] 0 true] => ⟨True, .bool (decide (nm = o.1)), [.arr (.prod .str (.prod (.prod (.int .i64) (.int .i64)) (.prod (.int .i64) (.int .i64)))) [o] 0 true]⟩
  | _, _ => noSpec
theorem ok_ValidBench1 : SpecOk Try.prog 112 s_cl1 := by
  intro args S h; unfold s_cl1 at h ⊢; (split at h <;> first | exact False.elim h | skip)
  dsimp only at h ⊢
  refine funW tabOk (E := []) trivial [] (k := 1) (fn := Try.f112) rfl rfl rfl rfl rfl rfl ?_
  (repeat' ((try (conv => whnf)); first | (with_reducible first | refine And.intro ?_ ?_ | refine WX.of ?_) | exact zc | ((with_reducible refine VC.mk ?_); exact zw) | (with_reducible first | refine splitT ?_ | refine splitF ?_) | ((with_reducible refine splitM.mk (fun hsm => ?_) (fun hsm => ?_)) <;> (try exact zx)) | ((with_reducible refine splitB.mk (fun h => ?_) (fun h => ?_)) <;> (try simp only [zs, ne_eq] at h) <;> (try simp (disch := omega) only [w64] at h) <;> (try exact zx)) | (with_reducible intro hz; (try exact absurd hz (Nat.succ_ne_zero _)))))
def s_idxTh (g : Nat) : Spec := fun args S => match args, S with
  | [.sl 0 s n x, .fn g' [.ptr 1 0 0]], [.arr (.prod .str (.prod (.prod (.int .i64) (.int .i64)) (.prod (.int .i64) (.int .i64)))) l 5 wr, .arr (.prod .str (.prod (.prod (.int .i64) (.int .i64)) (.prod (.int .i64) (.int .i64)))) [o] 0 true] => ⟨g' = g ∧ s + n ≤ l.length ∧ n ≤ 9223372036854775807, .int .i64 (findI (fun a : ThT => decide (a.1 = o.1)) (seg l s n)), [.arr (.prod .str (.prod (.prod (.int .i64) (.int .i64)) (.prod (.int .i64) (.int .i64)))) l 5 wr, .arr (.prod .str (.prod (.prod (.int .i64) (.int .i64)) (.prod (.int .i64) (.int .i64)))) [o] 0 true]⟩
  | _, _ => noSpec
theorem ok_idxTh : SpecOk Try.prog 119 (s_idxTh 112) := by
  intro args S h; unfold s_idxTh at h ⊢; (split at h <;> first | exact False.elim h | skip)
  dsimp only at h ⊢
  rename_i s n x g l wr o
  obtain ⟨rfl, h1, h2⟩ := h
  have hL := seg_len h1
  refine funW tabOk (E := [(112, s_cl1)]) ⟨ok_ValidBench1, trivial⟩ [] (k := 2) (fn := Try.f119) rfl rfl rfl rfl rfl rfl ?_
  (repeat' ((try (conv => whnf)); first | (with_reducible first | refine And.intro ?_ ?_ | refine WX.of ?_) | exact zc | ((with_reducible refine VC.mk ?_); exact zw) | (with_reducible first | refine splitT ?_ | refine splitF ?_) | ((with_reducible refine splitM.mk (fun hsm => ?_) (fun hsm => ?_)) <;> (try exact zx)) | ((with_reducible refine splitB.mk (fun h => ?_) (fun h => ?_)) <;> (try simp only [zs, ne_eq] at h) <;> (try simp (disch := omega) only [w64] at h) <;> (try exact zx)) | (with_reducible intro hz; (try exact absurd hz (Nat.succ_ne_zero _)))))
  refine loopW tabOk (E := [(112, s_cl1)]) ⟨ok_ValidBench1, trivial⟩ [] (σ := Nat) (fun i => [(0, .sl 0 s n x), (1, .fn 112 [.ptr 1 0 0]), (7, .int .i64 n), (8, .int .i64 i)]) (fun i => [.arr (.prod .str (.prod (.prod (.int .i64) (.int .i64)) (.prod (.int .i64) (.int .i64)))) l 5 wr, .arr (.prod .str (.prod (.prod (.int .i64) (.int .i64)) (.prod (.int .i64) (.int .i64)))) [o] 0 true]) (fun i => n - i) (fun i => i ≤ n ∧ ∀ (j : Nat) (a : ThT), j < i → (seg l s n)[j]? = some a → decide (a.1 = o.1) = false) 0 ⟨Nat.zero_le _, fun j a hj => by omega⟩ ?_ ?_
  · (repeat' ((try (conv => whnf)); first | (with_reducible first | refine And.intro ?_ ?_ | refine WX.of ?_) | exact zc | ((with_reducible refine VC.mk ?_); exact zw) | (with_reducible first | refine splitT ?_ | refine splitF ?_) | ((with_reducible refine splitM.mk (fun hsm => ?_) (fun hsm => ?_)) <;> (try exact zx)) | ((with_reducible refine splitB.mk (fun h => ?_) (fun h => ?_)) <;> (try simp only [zs, ne_eq] at h) <;> (try simp (disch := omega) only [w64] at h) <;> (try exact zx)) | (with_reducible intro hz; (try exact absurd hz (Nat.succ_ne_zero _)))))
  · intro i ⟨hi, hp⟩
    by_cases hlt : i < n
    · obtain ⟨⟨nm, ⟨p, q⟩, r, s0⟩, ha⟩ := get_some (l := seg l s n) (i := i) (by omega)
      (repeat' ((try (conv => whnf)); first | (with_reducible first | refine And.intro ?_ ?_ | refine WX.of ?_) | exact zc | ((with_reducible refine VC.mk ?_); exact zw) | with_reducible refine atL_i ha ?_ | (with_reducible first | refine splitT ?_ | refine splitF ?_) | ((with_reducible refine splitM.mk (fun hsm => ?_) (fun hsm => ?_)) <;> (try exact zx)) | ((with_reducible refine splitB.mk (fun h => ?_) (fun h => ?_)) <;> (try simp only [zs, ne_eq] at h) <;> (try simp (disch := omega) only [w64] at h) <;> (try exact zx)) | (with_reducible intro hz; (try exact absurd hz (Nat.succ_ne_zero _)))))
      · exact ⟨by rw [findI_some (p := fun a : ThT => decide (a.1 = o.1)) ha (decide_eq_true h) hp]⟩
      · refine ⟨i + 1, by omega, ⟨hlt, upto_step ha (decide_eq_false h) hp⟩, ?_⟩
        (repeat' ((try (conv => whnf)); first | (with_reducible first | refine And.intro ?_ ?_ | refine WX.of ?_) | exact zc | ((with_reducible refine VC.mk ?_); exact zw) | (with_reducible first | refine splitT ?_ | refine splitF ?_) | ((with_reducible refine splitM.mk (fun hsm => ?_) (fun hsm => ?_)) <;> (try exact zx)) | ((with_reducible refine splitB.mk (fun h => ?_) (fun h => ?_)) <;> (try simp only [zs, ne_eq] at h) <;> (try simp (disch := omega) only [w64] at h) <;> (try exact zx)) | (with_reducible intro hz; (try exact absurd hz (Nat.succ_ne_zero _)))))
    · (repeat' ((try (conv => whnf)); first | (with_reducible first | refine And.intro ?_ ?_ | refine WX.of ?_) | exact zc | ((with_reducible refine VC.mk ?_); exact zw) | (with_reducible first | refine splitT ?_ | refine splitF ?_) | ((with_reducible refine splitM.mk (fun hsm => ?_) (fun hsm => ?_)) <;> (try exact zx)) | ((with_reducible refine splitB.mk (fun h => ?_) (fun h => ?_)) <;> (try simp only [zs, ne_eq] at h) <;> (try simp (disch := omega) only [w64] at h) <;> (try exact zx)) | (with_reducible intro hz; (try exact absurd hz (Nat.succ_ne_zero _)))))
      exact ⟨by rw [findI_none (p := fun a : ThT => decide (a.1 = o.1)) fun j a hj => hp j a (by have := (List.getElem?_eq_some_iff.1 hj).1; omega) hj]⟩
def s_anyTh (g : Nat) : Spec := fun args S => match args, S with
  | [.sl 0 s n x, .fn g' [.ptr 1 0 0]], [.arr (.prod .str (.prod (.prod (.int .i64) (.int .i64)) (.prod (.int .i64) (.int .i64)))) l 5 wr, .arr (.prod .str (.prod (.prod (.int .i64) (.int .i64)) (.prod (.int .i64) (.int .i64)))) [o] 0 true] => ⟨g' = g ∧ s + n ≤ l.length ∧ n ≤ 9223372036854775807, .bool ((seg l s n).any (fun a : ThT => decide (a.1 = o.1))), [.arr (.prod .str (.prod (.prod (.int .i64) (.int .i64)) (.prod (.int .i64) (.int .i64)))) l 5 wr, .arr (.prod .str (.prod (.prod (.int .i64) (.int .i64)) (.prod (.int .i64) (.int .i64)))) [o] 0 true]⟩
  | _, _ => noSpec
theorem ok_anyTh : SpecOk Try.prog 111 (s_anyTh 112) := by
  intro args S h; unfold s_anyTh at h ⊢; (split at h <;> first | exact False.elim h | skip)
  dsimp only at h ⊢
  rename_i s n x g l wr o
  obtain ⟨rfl, h1, h2⟩ := h
  refine funW tabOk (E := [(119, (s_idxTh 112))]) ⟨ok_idxTh, trivial⟩ [] (k := 2) (fn := Try.f111) rfl rfl rfl rfl rfl rfl ?_
  (repeat' ((try (conv => whnf)); first | (with_reducible first | refine And.intro ?_ ?_ | refine WX.of ?_) | exact zc | ((with_reducible refine VC.mk ?_); exact zw) | (with_reducible first | refine splitT ?_ | refine splitF ?_) | ((with_reducible refine splitM.mk (fun hsm => ?_) (fun hsm => ?_)) <;> (try exact zx)) | ((with_reducible refine splitB.mk (fun h => ?_) (fun h => ?_)) <;> (try simp only [zs, ne_eq] at h) <;> (try simp (disch := omega) only [w64] at h) <;> (try exact zx)) | (with_reducible intro hz; (try exact absurd hz (Nat.succ_ne_zero _)))))
  exact ⟨by rw [findI_any]⟩
def s_vBench : Spec := fun args S => match args, S with
  | [.agg [.int .i64 up, .int .i64 uq, .sl 0 s n x, .int .i64 vp, .bool vb, .int .i64 gp, .int .i64 gq, .sl 1 t m y]], [.arr (.prod (.int .i64) (.int .i64)) l 2 wr, .arr (.prod .str (.prod (.prod (.int .i64) (.int .i64)) (.prod (.int .i64) (.int .i64)))) T 5 wT] => ⟨(s + n ≤ l.length ∧ n ≤ 1048576) ∧ (t + m ≤ T.length ∧ m ≤ 1048576) ∧ ∀ (j : Nat) (a : ThT), T[j]? = some a → a.1.length < 9223372036854775808, .bool (bnB up uq vp gp gq (seg l s n) (seg T t m)), [.arr (.prod (.int .i64) (.int .i64)) l 2 wr, .arr (.prod .str (.prod (.prod (.int .i64) (.int .i64)) (.prod (.int .i64) (.int .i64)))) T 5 wT]⟩
  | _, _ => noSpec
theorem ok_ValidBenchI : SpecOk Try.prog 88 s_vBench := by
  intro args S h; unfold s_vBench at h ⊢; (split at h <;> first | exact False.elim h | skip)
  dsimp only at h ⊢
  rename_i up uq s n x vp vb gp gq t m y l wr T wT
  obtain ⟨⟨h1, h2⟩, ⟨h3, h4⟩, ho⟩ := h
  have hL := seg_len h1
  have hM := seg_len h3
  refine funW tabOk (E := [(110, s_word), (111, (s_anyTh 112)), (37, s_fOk), (26, s_num), (38, s_cmp), (113, s_gw), (56, s_vScale), (114, s_ver)]) ⟨ok_isWord, ok_anyTh, ok_ValidFrac, ok_num, ok_compare, ok_isGrowth, ok_ValidScale, ok_ValidVernier, trivial⟩ [(6, [(12, 2)])] (k := 2) (fn := Try.f88) rfl rfl rfl rfl rfl rfl ?_
  (repeat' ((try (conv => whnf)); first | (with_reducible first | refine And.intro ?_ ?_ | refine WX.of ?_) | exact zc | ((with_reducible refine VC.mk ?_); exact zw) | (with_reducible first | refine splitT ?_ | refine splitF ?_) | ((with_reducible refine splitM.mk (fun hsm => ?_) (fun hsm => ?_)) <;> (try exact zx)) | ((with_reducible refine splitB.mk (fun h => ?_) (fun h => ?_)) <;> (try simp only [zs, ne_eq] at h) <;> (try simp (disch := omega) only [w64] at h) <;> (try exact zx)) | (with_reducible intro hz; (try exact absurd hz (Nat.succ_ne_zero _)))))
  refine loopW tabOk (E := [(110, s_word), (111, (s_anyTh 112)), (37, s_fOk), (26, s_num), (38, s_cmp), (113, s_gw), (56, s_vScale), (114, s_ver)]) ⟨ok_isWord, ok_anyTh, ok_ValidFrac, ok_num, ok_compare, ok_isGrowth, ok_ValidScale, ok_ValidVernier, trivial⟩ [(6, [(12, 2)])] (σ := Nat) (fun i => [(1, .ptr 2 0 0), (6, .sl 1 t m y), (7, .int .i64 m), (8, .int .i64 i)]) (fun i => [.arr (.prod (.int .i64) (.int .i64)) l 2 wr, .arr (.prod .str (.prod (.prod (.int .i64) (.int .i64)) (.prod (.int .i64) (.int .i64)))) T 5 wT, .box [.int .i64 up, .int .i64 uq, .sl 0 s n x, .int .i64 vp, .bool vb, .int .i64 gp, .int .i64 gq, .sl 1 t m y] true false]) (fun i => m - i) (fun i => i ≤ m ∧ ∀ (j : Nat) (a : ThT), j < i → (seg T t m)[j]? = some a → thB (seg T t m) j a = true) 0 ⟨Nat.zero_le _, fun j a hj => by omega⟩ ?_ ?_
  · (repeat' ((try (conv => whnf)); first | (with_reducible first | refine And.intro ?_ ?_ | refine WX.of ?_) | exact zc | ((with_reducible refine VC.mk ?_); exact zw) | (with_reducible first | refine splitT ?_ | refine splitF ?_) | ((with_reducible refine splitM.mk (fun hsm => ?_) (fun hsm => ?_)) <;> (try exact zx)) | ((with_reducible refine splitB.mk (fun h => ?_) (fun h => ?_)) <;> (try simp only [zs, ne_eq] at h) <;> (try simp (disch := omega) only [w64] at h) <;> (try exact zx)) | (with_reducible intro hz; (try exact absurd hz (Nat.succ_ne_zero _)))))
  · intro i ⟨hi, hp⟩
    by_cases hlt : i < m
    · obtain ⟨⟨nm, ⟨p, q⟩, r, s0⟩, ha⟩ := get_some (l := seg T t m) (i := i) (by omega)
      have hno := ho _ _ (seg_get ha).1
      dsimp only at hno
      have hsg := seg_take (l := T) (s := t) (m := m) (i := i) (by omega)
      (repeat' ((try (conv => whnf)); first | (with_reducible first | refine And.intro ?_ ?_ | refine WX.of ?_) | exact zc | ((with_reducible refine VC.mk ?_); exact zw) | with_reducible refine atL_i ha ?_ | (with_reducible first | refine splitT ?_ | refine splitF ?_) | ((with_reducible refine splitM.mk (fun hsm => ?_) (fun hsm => ?_)) <;> (try exact zx)) | ((with_reducible refine splitB.mk (fun h => ?_) (fun h => ?_)) <;> (try simp only [zs, ne_eq] at h) <;> (try simp (disch := omega) only [w64] at h) <;> (try exact zx)) | (with_reducible intro hz; (try exact absurd hz (Nat.succ_ne_zero _)))))
      · exact ⟨congrArg SV.bool (by rw [bn_no ha (by simp only [thB, h, Bool.false_and])])⟩
      · rw [Int.toNat_natCast, hsg] at h
        exact ⟨congrArg SV.bool (by rw [bn_no ha (by simp only [thB, h, Bool.not_true, Bool.and_false, Bool.false_and])])⟩
      · exact ⟨congrArg SV.bool (by rw [bn_no ha (by simp only [thB, wi_no0 h, Bool.and_false, Bool.false_and])])⟩
      · exact ⟨congrArg SV.bool (by rw [bn_no ha (by simp only [thB, wi_no1 h, Bool.and_false, Bool.false_and])])⟩
      · exact ⟨⟨smF_ok (by assumption), smF_1 (by omega)⟩⟩
      · exact ⟨congrArg SV.bool (by rw [bn_no ha (by simp only [thB, wi_no2 h, Bool.and_false, Bool.false_and])])⟩
      · exact ⟨congrArg SV.bool (by rw [bn_no ha (by simp only [thB, h, Bool.and_false])])⟩
      · rename_i hw hn hf hp0 hcm
        rw [Int.toNat_natCast, hsg] at hn
        have hth : thB (seg T t m) i (nm, (p, q), r, s0) = true := by
          simp only [thB, wi_yes hf hp0 hcm, hw, hn, h, Bool.not_false, Bool.and_self]
        refine ⟨i + 1, by omega, ⟨hlt, upto_step2 ha hth hp⟩, ?_⟩
        (repeat' ((try (conv => whnf)); first | (with_reducible first | refine And.intro ?_ ?_ | refine WX.of ?_) | exact zc | ((with_reducible refine VC.mk ?_); exact zw) | (with_reducible first | refine splitT ?_ | refine splitF ?_) | ((with_reducible refine splitM.mk (fun hsm => ?_) (fun hsm => ?_)) <;> (try exact zx)) | ((with_reducible refine splitB.mk (fun h => ?_) (fun h => ?_)) <;> (try simp only [zs, ne_eq] at h) <;> (try simp (disch := omega) only [w64] at h) <;> (try exact zx)) | (with_reducible intro hz; (try exact absurd hz (Nat.succ_ne_zero _)))))
    · obtain rfl : i = m := by omega
      have hbn := bn_yes (up := up) (uq := uq) (vp := vp) (gp := gp) (gq := gq) (E := seg l s n) (T := seg T t i) fun k a ha => hp k a (by have := (List.getElem?_eq_some_iff.1 ha).1; omega) ha
      (repeat' ((try (conv => whnf)); first | (with_reducible first | refine And.intro ?_ ?_ | refine WX.of ?_) | exact zc | ((with_reducible refine VC.mk ?_); exact zw) | (with_reducible first | refine splitT ?_ | refine splitF ?_) | ((with_reducible refine splitM.mk (fun hsm => ?_) (fun hsm => ?_)) <;> (try exact zx)) | ((with_reducible refine splitB.mk (fun h => ?_) (fun h => ?_)) <;> (try simp only [zs, ne_eq] at h) <;> (try simp (disch := omega) only [w64] at h) <;> (try exact zx)) | (with_reducible intro hz; (try exact absurd hz (Nat.succ_ne_zero _)))))
      · rename_i hsc hv
        exact ⟨congrArg SV.bool (by rw [hbn, hM, hsc, h, show decide (2 ≤ vp ∧ vp ≤ 40) = true from decide_eq_true hv, Bool.true_and, Bool.true_and, Bool.true_and, decide_eq_decide]; omega)⟩
      · exact ⟨congrArg SV.bool (by rw [hbn, h, Bool.and_false, Bool.false_and])⟩
      · exact ⟨congrArg SV.bool (by rw [hbn, decide_eq_false h, Bool.and_false, Bool.false_and, Bool.false_and])⟩
      · exact ⟨congrArg SV.bool (by rw [hbn, h, Bool.false_and, Bool.false_and, Bool.false_and])⟩
def s_l07Ok : Spec := fun args S => match args, S with
  | [.ptr 0 0 0], [.box [.int .i64 up, .int .i64 uq, .sl 1 s n x, .int .i64 vp, .bool vb, .int .i64 gp, .int .i64 gq, .sl 2 t m y] true false, .arr (.prod (.int .i64) (.int .i64)) l 2 wr, .arr (.prod .str (.prod (.prod (.int .i64) (.int .i64)) (.prod (.int .i64) (.int .i64)))) T 5 wT] => ⟨(s + n ≤ l.length ∧ n ≤ 1048576) ∧ (t + m ≤ T.length ∧ m ≤ 1048576) ∧ ∀ (j : Nat) (a : ThT), T[j]? = some a → a.1.length < 9223372036854775808, .bool (bnB up uq vp gp gq (seg l s n) (seg T t m)), [.box [.int .i64 up, .int .i64 uq, .sl 1 s n x, .int .i64 vp, .bool vb, .int .i64 gp, .int .i64 gq, .sl 2 t m y] true false, .arr (.prod (.int .i64) (.int .i64)) l 2 wr, .arr (.prod .str (.prod (.prod (.int .i64) (.int .i64)) (.prod (.int .i64) (.int .i64)))) T 5 wT]⟩
  | _, _ => noSpec
theorem ok_l07Ok : SpecOk Try.prog 41 s_l07Ok := by
  intro args S h; unfold s_l07Ok at h ⊢; (split at h <;> first | exact False.elim h | skip)
  dsimp only at h ⊢
  rename_i up uq s n x vp vb gp gq t m y l wr T wT
  obtain ⟨⟨h1, h2⟩, ⟨h3, h4⟩, ho⟩ := h
  have hL := seg_len h1
  have hM := seg_len h3
  refine funW tabOk (E := [(73, s_l02Ok), (74, s_l02Ver), (75, s_gw), (76, s_word), (77, s_wi)]) ⟨ok_l02Ok, ok_l02Vernier, ok_l07Grows, ok_l07Name, ok_l02Within, trivial⟩ [] (k := 3) (fn := Try.f41) rfl rfl rfl rfl rfl rfl ?_
  (repeat' ((try (conv => whnf)); first | (with_reducible first | refine And.intro ?_ ?_ | refine WX.of ?_) | exact zc | ((with_reducible refine VC.mk ?_); exact zw) | (with_reducible first | refine splitT ?_ | refine splitF ?_) | ((with_reducible refine splitM.mk (fun hsm => ?_) (fun hsm => ?_)) <;> (try exact zx)) | ((with_reducible refine splitB.mk (fun h => ?_) (fun h => ?_)) <;> (try simp only [zs, ne_eq] at h) <;> (try simp (disch := omega) only [w64] at h) <;> (try exact zx)) | (with_reducible intro hz; (try exact absurd hz (Nat.succ_ne_zero _)))))
  · exact ⟨congrArg SV.bool (by unfold bnB; rw [h, Bool.false_and, Bool.false_and, Bool.false_and, Bool.false_and])⟩
  · exact ⟨congrArg SV.bool (by unfold bnB; rw [decide_eq_false h, Bool.and_false, Bool.false_and, Bool.false_and, Bool.false_and])⟩
  · exact ⟨congrArg SV.bool (by unfold bnB; rw [h, Bool.and_false, Bool.false_and, Bool.false_and])⟩
  · exact ⟨congrArg SV.bool (by unfold bnB; rw [hM, show decide (m ≤ 10) = false from decide_eq_false (by omega), Bool.and_false, Bool.false_and])⟩
  · rename_i hsc hv hg
    have hm10 := h
    refine loopW tabOk (E := [(73, s_l02Ok), (74, s_l02Ver), (75, s_gw), (76, s_word), (77, s_wi)]) ⟨ok_l02Ok, ok_l02Vernier, ok_l07Grows, ok_l07Name, ok_l02Within, trivial⟩ [] (σ := Nat) (fun i => [(0, .ptr 0 0 0), (3, .int .i64 i)]) (fun i => [.box [.int .i64 up, .int .i64 uq, .sl 1 s n x, .int .i64 vp, .bool vb, .int .i64 gp, .int .i64 gq, .sl 2 t m y] true false, .arr (.prod (.int .i64) (.int .i64)) l 2 wr, .arr (.prod .str (.prod (.prod (.int .i64) (.int .i64)) (.prod (.int .i64) (.int .i64)))) T 5 wT]) (fun i => m - i) (fun i => i ≤ m ∧ ∀ (j : Nat) (a : ThT), j < i → (seg T t m)[j]? = some a → thB (seg T t m) j a = true) 0 ⟨Nat.zero_le _, fun j a hj => by omega⟩ ?_ ?_
    · (repeat' ((try (conv => whnf)); first | (with_reducible first | refine And.intro ?_ ?_ | refine WX.of ?_) | exact zc | ((with_reducible refine VC.mk ?_); exact zw) | (with_reducible first | refine splitT ?_ | refine splitF ?_) | ((with_reducible refine splitM.mk (fun hsm => ?_) (fun hsm => ?_)) <;> (try exact zx)) | ((with_reducible refine splitB.mk (fun h => ?_) (fun h => ?_)) <;> (try simp only [zs, ne_eq] at h) <;> (try simp (disch := omega) only [w64] at h) <;> (try exact zx)) | (with_reducible intro hz; (try exact absurd hz (Nat.succ_ne_zero _)))))
    · intro i ⟨hi, hp⟩
      by_cases hlt : i < m
      · obtain ⟨⟨nm, ⟨p, q⟩, r, s0⟩, ha⟩ := get_some (l := seg T t m) (i := i) (by omega)
        have hno := ho _ _ (seg_get ha).1
        dsimp only at hno
        (repeat' ((try (conv => whnf)); first | (with_reducible first | refine And.intro ?_ ?_ | refine WX.of ?_) | exact zc | ((with_reducible refine VC.mk ?_); exact zw) | with_reducible refine atL_i ha ?_ | (with_reducible first | refine splitT ?_ | refine splitF ?_) | ((with_reducible refine splitM.mk (fun hsm => ?_) (fun hsm => ?_)) <;> (try exact zx)) | ((with_reducible refine splitB.mk (fun h => ?_) (fun h => ?_)) <;> (try simp only [zs, ne_eq] at h) <;> (try simp (disch := omega) only [w64] at h) <;> (try exact zx)) | (with_reducible intro hz; (try exact absurd hz (Nat.succ_ne_zero _)))))
        · exact ⟨congrArg SV.bool (by rw [bn_no ha (by simp only [thB, h, Bool.false_and])])⟩
        · exact ⟨congrArg SV.bool (by rw [bn_no ha (by simp only [thB, h, Bool.and_false, Bool.false_and])])⟩
        · exact ⟨congrArg SV.bool (by rw [bn_no ha (by simp only [thB, h, Bool.and_false])])⟩
        · rename_i hw hwi
          have hgw := h
          refine loopW tabOk (E := [(73, s_l02Ok), (74, s_l02Ver), (75, s_gw), (76, s_word), (77, s_wi)]) ⟨ok_l02Ok, ok_l02Vernier, ok_l07Grows, ok_l07Name, ok_l02Within, trivial⟩ [] (σ := Nat) (fun j => [(0, .ptr 0 0 0), (3, .int .i64 i), (4, .ptr 2 (t + i) 0), (5, .int .i64 j)]) (fun j => [.box [.int .i64 up, .int .i64 uq, .sl 1 s n x, .int .i64 vp, .bool vb, .int .i64 gp, .int .i64 gq, .sl 2 t m y] true false, .arr (.prod (.int .i64) (.int .i64)) l 2 wr, .arr (.prod .str (.prod (.prod (.int .i64) (.int .i64)) (.prod (.int .i64) (.int .i64)))) T 5 wT]) (fun j => i - j) (fun j => j ≤ i ∧ ∀ (k : Nat) (a : ThT), k < j → (seg T t m)[k]? = some a → decide (a.1 = nm) = false) 0 ⟨Nat.zero_le _, fun j a hj => by omega⟩ ?_ ?_
          · (repeat' ((try (conv => whnf)); first | (with_reducible first | refine And.intro ?_ ?_ | refine WX.of ?_) | exact zc | ((with_reducible refine VC.mk ?_); exact zw) | (with_reducible first | refine splitT ?_ | refine splitF ?_) | ((with_reducible refine splitM.mk (fun hsm => ?_) (fun hsm => ?_)) <;> (try exact zx)) | ((with_reducible refine splitB.mk (fun h => ?_) (fun h => ?_)) <;> (try simp only [zs, ne_eq] at h) <;> (try simp (disch := omega) only [w64] at h) <;> (try exact zx)) | (with_reducible intro hz; (try exact absurd hz (Nat.succ_ne_zero _)))))
          · intro j ⟨hj, hq⟩
            by_cases hjl : j < i
            · obtain ⟨⟨nm', ⟨p', q'⟩, r', s0'⟩, hb⟩ := get_some (l := seg T t m) (i := j) (by omega)
              (repeat' ((try (conv => whnf)); first | (with_reducible first | refine And.intro ?_ ?_ | refine WX.of ?_) | exact zc | ((with_reducible refine VC.mk ?_); exact zw) | with_reducible refine atL_i hb ?_ | with_reducible refine atL_p (seg_get ha).1 ?_ | (with_reducible first | refine splitT ?_ | refine splitF ?_) | ((with_reducible refine splitM.mk (fun hsm => ?_) (fun hsm => ?_)) <;> (try exact zx)) | ((with_reducible refine splitB.mk (fun h => ?_) (fun h => ?_)) <;> (try simp only [zs, ne_eq] at h) <;> (try simp (disch := omega) only [w64] at h) <;> (try exact zx)) | (with_reducible intro hz; (try exact absurd hz (Nat.succ_ne_zero _)))))
              · exact ⟨congrArg SV.bool (by rw [bn_no ha (by simp only [thB, any_take hb hjl (p := fun o : ThT => decide (o.1 = nm)) (decide_eq_true h), Bool.not_true, Bool.and_false, Bool.false_and])])⟩
              · refine ⟨j + 1, by omega, ⟨hjl, upto_step hb (decide_eq_false h) hq⟩, ?_⟩
                (repeat' ((try (conv => whnf)); first | (with_reducible first | refine And.intro ?_ ?_ | refine WX.of ?_) | exact zc | ((with_reducible refine VC.mk ?_); exact zw) | (with_reducible first | refine splitT ?_ | refine splitF ?_) | ((with_reducible refine splitM.mk (fun hsm => ?_) (fun hsm => ?_)) <;> (try exact zx)) | ((with_reducible refine splitB.mk (fun h => ?_) (fun h => ?_)) <;> (try simp only [zs, ne_eq] at h) <;> (try simp (disch := omega) only [w64] at h) <;> (try exact zx)) | (with_reducible intro hz; (try exact absurd hz (Nat.succ_ne_zero _)))))
            · have han : ((seg T t m).take i).any (fun o : ThT => decide (o.1 = nm)) = false := any_no fun k a hk => by
                rw [List.getElem?_take] at hk
                split at hk
                · exact hq k a (by omega) hk
                · simp at hk
              have hth : thB (seg T t m) i (nm, (p, q), r, s0) = true := by
                simp only [thB, hw, hwi, hgw, han, Bool.not_false, Bool.and_self]
              (repeat' ((try (conv => whnf)); first | (with_reducible first | refine And.intro ?_ ?_ | refine WX.of ?_) | exact zc | ((with_reducible refine VC.mk ?_); exact zw) | (with_reducible first | refine splitT ?_ | refine splitF ?_) | ((with_reducible refine splitM.mk (fun hsm => ?_) (fun hsm => ?_)) <;> (try exact zx)) | ((with_reducible refine splitB.mk (fun h => ?_) (fun h => ?_)) <;> (try simp only [zs, ne_eq] at h) <;> (try simp (disch := omega) only [w64] at h) <;> (try exact zx)) | (with_reducible intro hz; (try exact absurd hz (Nat.succ_ne_zero _)))))
              refine ⟨i + 1, by omega, ⟨hlt, upto_step2 ha hth hp⟩, ?_⟩
              (repeat' ((try (conv => whnf)); first | (with_reducible first | refine And.intro ?_ ?_ | refine WX.of ?_) | exact zc | ((with_reducible refine VC.mk ?_); exact zw) | (with_reducible first | refine splitT ?_ | refine splitF ?_) | ((with_reducible refine splitM.mk (fun hsm => ?_) (fun hsm => ?_)) <;> (try exact zx)) | ((with_reducible refine splitB.mk (fun h => ?_) (fun h => ?_)) <;> (try simp only [zs, ne_eq] at h) <;> (try simp (disch := omega) only [w64] at h) <;> (try exact zx)) | (with_reducible intro hz; (try exact absurd hz (Nat.succ_ne_zero _)))))
      · obtain rfl : i = m := by omega
        have hbn := bn_yes (up := up) (uq := uq) (vp := vp) (gp := gp) (gq := gq) (E := seg l s n) (T := seg T t i) fun k a ha => hp k a (by have := (List.getElem?_eq_some_iff.1 ha).1; omega) ha
        (repeat' ((try (conv => whnf)); first | (with_reducible first | refine And.intro ?_ ?_ | refine WX.of ?_) | exact zc | ((with_reducible refine VC.mk ?_); exact zw) | (with_reducible first | refine splitT ?_ | refine splitF ?_) | ((with_reducible refine splitM.mk (fun hsm => ?_) (fun hsm => ?_)) <;> (try exact zx)) | ((with_reducible refine splitB.mk (fun h => ?_) (fun h => ?_)) <;> (try simp only [zs, ne_eq] at h) <;> (try simp (disch := omega) only [w64] at h) <;> (try exact zx)) | (with_reducible intro hz; (try exact absurd hz (Nat.succ_ne_zero _)))))
        exact ⟨congrArg SV.bool (by rw [hbn, hM, hsc, hg, show decide (2 ≤ vp ∧ vp ≤ 40) = true from decide_eq_true hv, show decide (i ≤ 10) = true from decide_eq_true (by omega)]; rfl)⟩
abbrev ShT : Type := Int × (Int × Int) × (Int × Int)
/-- A valid shot on m things. -/
def shB (m : Nat) (c : ShT) : Bool := decide (0 ≤ c.1 ∧ c.1 ≤ (m : Int) - 1) && fOk c.2.1.1 c.2.1.2 && decide ((c.2.1.1.natAbs : Int) ≤ 100 * c.2.1.2) && fOk c.2.2.1 c.2.2.2
theorem sh_no1 {m : Nat} {i wp wq sp sq : Int} (h : ¬ (0 ≤ i ∧ i ≤ (m : Int) - 1)) : shB m (i, (wp, wq), sp, sq) = false := by
  simp only [shB, decide_eq_false h, Bool.false_and]
theorem sh_no2 {m : Nat} {i wp wq sp sq : Int} (h : (fOk wp wq && fOk sp sq) = false) : shB m (i, (wp, wq), sp, sq) = false := by
  unfold shB
  dsimp only
  cases h1 : fOk wp wq
  · simp
  · cases h2 : fOk sp sq
    · simp
    · rw [h1, h2] at h; simp at h
theorem sh_no3 {m : Nat} {i wp wq sp sq : Int} (h : ¬ (wp.natAbs : Int) ≤ 100 * wq) : shB m (i, (wp, wq), sp, sq) = false := by
  simp only [shB, decide_eq_false h, Bool.and_false, Bool.false_and]
theorem sh_yes {m : Nat} {i wp wq sp sq : Int} (h1 : 0 ≤ i ∧ i ≤ (m : Int) - 1) (h2 : fOk wp wq = true) : shB m (i, (wp, wq), sp, sq) = (decide ((wp.natAbs : Int) ≤ 100 * wq) && fOk sp sq) := by
  simp only [shB, decide_eq_true h1, h2, Bool.true_and]
theorem smF_abs {p q : Int} (h : smF p q) : smF (p.natAbs : Int) q := by unfold smF at h ⊢; omega
theorem abs_in {p q : Int} (h : fOk p q = true) : -9223372036854775808 < p ∧ p < 9223372036854775808 := by
  have := smF_ok h; unfold smF at this; omega
theorem w100 {p q : Int} (h : fOk p q = true) : IntKind.i64.wrap (100 * q) = 100 * q := by
  have := smF_ok h; unfold smF at this; rw [w64 (by omega)]
def s_isThing : Spec := fun args S => match args, S with
  | [.agg [.int .i64 up, .int .i64 uq, .sl 0 s n x, .int .i64 vp, .bool vb, .int .i64 gp, .int .i64 gq, .sl 1 t m y], .int .i64 i], [.arr (.prod (.int .i64) (.int .i64)) l 2 wr, .arr (.prod .str (.prod (.prod (.int .i64) (.int .i64)) (.prod (.int .i64) (.int .i64)))) T 5 wT] => ⟨m ≤ 1048576, .bool (decide (0 ≤ i ∧ i ≤ (m : Int) - 1)), [.arr (.prod (.int .i64) (.int .i64)) l 2 wr, .arr (.prod .str (.prod (.prod (.int .i64) (.int .i64)) (.prod (.int .i64) (.int .i64)))) T 5 wT]⟩
  | _, _ => noSpec
theorem ok_isThing : SpecOk Try.prog 89 s_isThing := by
  intro args S h; unfold s_isThing at h ⊢; (split at h <;> first | exact False.elim h | skip)
  dsimp only at h ⊢
  refine funW tabOk (E := [(71, s_within)]) ⟨ok_within, trivial⟩ [] (k := 2) (fn := Try.f89) rfl rfl rfl rfl rfl rfl ?_
  (repeat' ((try (conv => whnf)); first | (with_reducible first | refine And.intro ?_ ?_ | refine WX.of ?_) | exact zc | ((with_reducible refine VC.mk ?_); exact zw) | (with_reducible first | refine splitT ?_ | refine splitF ?_) | ((with_reducible refine splitM.mk (fun hsm => ?_) (fun hsm => ?_)) <;> (try exact zx)) | ((with_reducible refine splitB.mk (fun h => ?_) (fun h => ?_)) <;> (try simp only [zs, ne_eq] at h) <;> (try simp (disch := omega) only [w64] at h) <;> (try exact zx)) | (with_reducible intro hz; (try exact absurd hz (Nat.succ_ne_zero _)))))
  exact ⟨by rw [w64 (by omega)]⟩
def s_vShot : Spec := fun args S => match args, S with
  | [.agg [.int .i64 up, .int .i64 uq, .sl 0 s n x, .int .i64 vp, .bool vb, .int .i64 gp, .int .i64 gq, .sl 1 t m y], .agg [.int .i64 i, .int .i64 wp, .int .i64 wq, .int .i64 sp, .int .i64 sq]], [.arr (.prod (.int .i64) (.int .i64)) l 2 wr, .arr (.prod .str (.prod (.prod (.int .i64) (.int .i64)) (.prod (.int .i64) (.int .i64)))) T 5 wT] => ⟨(s + n ≤ l.length ∧ n ≤ 1048576) ∧ (t + m ≤ T.length ∧ m ≤ 1048576) ∧ ∀ (j : Nat) (a : ThT), T[j]? = some a → a.1.length < 9223372036854775808, .bool (bnB up uq vp gp gq (seg l s n) (seg T t m) && shB m (i, (wp, wq), sp, sq)), [.arr (.prod (.int .i64) (.int .i64)) l 2 wr, .arr (.prod .str (.prod (.prod (.int .i64) (.int .i64)) (.prod (.int .i64) (.int .i64)))) T 5 wT]⟩
  | _, _ => noSpec
theorem ok_ValidShotI : SpecOk Try.prog 52 s_vShot := by
  intro args S h; unfold s_vShot at h ⊢; (split at h <;> first | exact False.elim h | skip)
  dsimp only at h ⊢
  rename_i up uq s n x vp vb gp gq t m y i wp wq sp sq l wr T wT
  have hq := h
  have hc := cmpF_le (p := (wp.natAbs : Int)) (q := wq) (p' := 100) (q' := 1)
  refine funW tabOk (E := [(88, s_vBench), (89, s_isThing), (70, s_allF), (57, s_size), (26, s_num), (38, s_cmp)]) ⟨ok_ValidBenchI, ok_isThing, ok_areValid, ok_size, ok_num, ok_compare, trivial⟩ [] (k := 2) (fn := Try.f52) rfl rfl rfl rfl rfl rfl ?_
  (repeat' ((try (conv => whnf)); first | (with_reducible first | refine And.intro ?_ ?_ | refine WX.of ?_) | exact zc | ((with_reducible refine VC.mk ?_); exact zw) | ((with_reducible refine VC.mk ?_); exact hq) | ((with_reducible refine VC.mk ?_); exact ⟨Nat.le_refl 2, (by omega)⟩) | (with_reducible first | refine splitT ?_ | refine splitF ?_) | ((with_reducible refine splitM.mk (fun hsm => ?_) (fun hsm => ?_)) <;> (try exact zx)) | ((with_reducible refine splitB.mk (fun h => ?_) (fun h => ?_)) <;> (try simp only [zs, ne_eq] at h) <;> (try simp (disch := omega) only [w64] at h) <;> (try exact zx)) | (with_reducible intro hz; (try exact absurd hz (Nat.succ_ne_zero _)))))
  · rw [allF_two, Bool.and_eq_true] at h
    exact ⟨smF_ok h.1⟩
  · rw [allF_two, Bool.and_eq_true] at h
    exact ⟨⟨smF_abs (smF_ok h.1), smF_1 (by omega)⟩⟩
  · rename_i hb hi
    rw [allF_two, Bool.and_eq_true] at h
    exact ⟨congrArg SV.bool (by rw [hb, Bool.true_and, sh_yes hi h.1, h.2, Bool.and_true, decide_eq_decide, hc]; omega)⟩
  · rw [allF_two] at h
    exact ⟨congrArg SV.bool (by rw [sh_no2 h, Bool.and_false])⟩
  · exact ⟨congrArg SV.bool (by rw [sh_no1 h, Bool.and_false])⟩
  · exact ⟨congrArg SV.bool (by rw [h, Bool.false_and])⟩
def s_l07Shot : Spec := fun args S => match args, S with
  | [.ptr 0 0 0, .ptr 1 0 0], [.box [.int .i64 up, .int .i64 uq, .sl 2 s n x, .int .i64 vp, .bool vb, .int .i64 gp, .int .i64 gq, .sl 3 t m y] true false, .arr (.prod (.int .i64) (.prod (.prod (.int .i64) (.int .i64)) (.prod (.int .i64) (.int .i64)))) [c] 0 true, .arr (.prod (.int .i64) (.int .i64)) l 2 wr, .arr (.prod .str (.prod (.prod (.int .i64) (.int .i64)) (.prod (.int .i64) (.int .i64)))) T 5 wT] => ⟨m ≤ 1048576, .bool (shB m c), [.box [.int .i64 up, .int .i64 uq, .sl 2 s n x, .int .i64 vp, .bool vb, .int .i64 gp, .int .i64 gq, .sl 3 t m y] true false, .arr (.prod (.int .i64) (.prod (.prod (.int .i64) (.int .i64)) (.prod (.int .i64) (.int .i64)))) [c] 0 true, .arr (.prod (.int .i64) (.int .i64)) l 2 wr, .arr (.prod .str (.prod (.prod (.int .i64) (.int .i64)) (.prod (.int .i64) (.int .i64)))) T 5 wT]⟩
  | _, _ => noSpec
theorem ok_l07Shot : SpecOk Try.prog 42 s_l07Shot := by
  intro args S h; unfold s_l07Shot at h ⊢; (split at h <;> first | exact False.elim h | skip)
  dsimp only at h ⊢
  rename_i up uq s n x vp vb gp gq t m y c l wr T wT
  obtain ⟨i, ⟨wp, wq⟩, sp, sq⟩ := c
  refine funW tabOk (E := [(78, s_within), (79, s_fOk), (80, s_abs)]) ⟨ok_l00In, ok_l01Ok, ok_l01Abs, trivial⟩ [(1, [(29, 2)])] (k := 4) (fn := Try.f42) rfl rfl rfl rfl rfl rfl ?_
  (repeat' ((try (conv => whnf)); first | (with_reducible first | refine And.intro ?_ ?_ | refine WX.of ?_) | exact zc | ((with_reducible refine VC.mk ?_); exact zw) | (with_reducible first | refine splitT ?_ | refine splitF ?_) | ((with_reducible refine splitM.mk (fun hsm => ?_) (fun hsm => ?_)) <;> (try exact zx)) | ((with_reducible refine splitB.mk (fun h => ?_) (fun h => ?_)) <;> (try simp only [zs, ne_eq] at h) <;> (try simp (disch := omega) only [w64] at h) <;> (try exact zx)) | (with_reducible intro hz; (try exact absurd hz (Nat.succ_ne_zero _)))))
  · exact ⟨abs_in h⟩
  · rename_i hi hf
    rw [w100 hf] at h
    exact ⟨congrArg SV.bool (by rw [sh_yes hi hf, decide_eq_true h, Bool.true_and])⟩
  · rename_i hi hf
    rw [w100 hf] at h
    exact ⟨congrArg SV.bool (by rw [sh_no3 (Int.not_le.2 h)])⟩
  · exact ⟨congrArg SV.bool (by rw [sh_no2 (by rw [h, Bool.false_and])])⟩
  · exact ⟨congrArg SV.bool (by rw [sh_no1 h])⟩
theorem ok_ValidShotS : SpecOk Try.prog 17 s_vShot := by
  intro args S h; unfold s_vShot at h ⊢; (split at h <;> first | exact False.elim h | skip)
  dsimp only at h ⊢
  rename_i up uq s n x vp vb gp gq t m y i wp wq sp sq l wr T wT
  have hq := h
  refine funW tabOk (E := [(41, s_l07Ok), (42, s_l07Shot)]) ⟨ok_l07Ok, ok_l07Shot, trivial⟩ [] (k := 2) (fn := Try.f17) rfl rfl rfl rfl rfl rfl ?_
  (repeat' ((try (conv => whnf)); first | (with_reducible first | refine And.intro ?_ ?_ | refine WX.of ?_) | exact zc | ((with_reducible refine VC.mk ?_); exact zw) | ((with_reducible refine VC.mk ?_); exact hq) | (with_reducible first | refine splitT ?_ | refine splitF ?_) | ((with_reducible refine splitM.mk (fun hsm => ?_) (fun hsm => ?_)) <;> (try exact zx)) | ((with_reducible refine splitB.mk (fun h => ?_) (fun h => ?_)) <;> (try simp only [zs, ne_eq] at h) <;> (try simp (disch := omega) only [w64] at h) <;> (try exact zx)) | (with_reducible intro hz; (try exact absurd hz (Nat.succ_ne_zero _)))))
  all_goals (refine ⟨congrArg SV.bool ?_⟩; simp only [*, Bool.true_and, Bool.false_and])
end Go.Proofs.Ytbmejhabgoimeaa.Eng
set_option linter.unusedVariables false
set_option linter.unusedSimpArgs false
namespace Go.Proofs.Ytbmejhabgoimeaa.Eng
open Go Go.RowKit
set_option maxRecDepth 100000
/-- Fractions that may fail. -/
abbrev FrT : Type := Int × Int
def rO (p q : Int) : Option FrT := if redOk p q = true then some (redP p q, redQ p q) else none
def adO (a b : FrT) : Option FrT := rO (a.1 * b.2 + b.1 * a.2) (a.2 * b.2)
def sbO (a b : FrT) : Option FrT := rO (a.1 * b.2 - b.1 * a.2) (a.2 * b.2)
def muO (a b : FrT) : Option FrT := rO (a.1 * b.1) (a.2 * b.2)
def dvO (a b : FrT) : Option FrT := if b.1 = 0 then none else rO (a.1 * b.2) (a.2 * b.1)
def tv (o : Option FrT) : FrT := o.getD (0, 1)
def zv (o : Option FrT) : FrT := o.getD (0, 0)
def oC (o : Option FrT) : Int := if o.isSome = true then 0 else 3
theorem tv_r (p q : Int) : tolP p q = (tv (rO p q)).1 ∧ tolQ p q = (tv (rO p q)).2 ∧ redOk p q = (rO p q).isSome := by
  unfold tolP tolQ rO tv
  cases redOk p q <;> simp
theorem zv_r (p q : Int) : rdP p q = (zv (rO p q)).1 ∧ rdQ p q = (zv (rO p q)).2 ∧ rdC p q = oC (rO p q) := by
  unfold rdP rdQ rdC rO zv oC
  cases redOk p q <;> simp
theorem smF_tv (o : Option FrT) (h : ∀ v, o = some v → smF v.1 v.2) : smF (tv o).1 (tv o).2 := by
  cases o with
  | none => exact smF_1 (n := 0) (by omega)
  | some v => exact h v rfl
theorem rO_f {p q : Int} {v : FrT} (h : rO p q = some v) : fOk v.1 v.2 = true := by
  unfold rO at h
  split at h
  · rename_i hk; obtain rfl := Option.some.inj h; exact hk
  · simp at h
theorem smF_rO (p q : Int) : smF (tv (rO p q)).1 (tv (rO p q)).2 := smF_tv _ fun v h => smF_ok (rO_f h)
theorem smF_dv (a b : FrT) : smF (tv (dvO a b)).1 (tv (dvO a b)).2 := by
  unfold dvO; split
  · exact smF_1 (n := 0) (by omega)
  · exact smF_rO _ _
def s_addO : Spec := fun args S => match args, S with
  | [.ptr b 0 0, .agg [.int .i64 p, .int .i64 q], .agg [.int .i64 p', .int .i64 q']], [.arr .bool [bad] 0 true] => ⟨b = 0 ∧ smF p q ∧ smF p' q', .agg [.int .i64 (tv (adO (p, q) (p', q'))).1, .int .i64 (tv (adO (p, q) (p', q'))).2], [.arr .bool [bad || !(adO (p, q) (p', q')).isSome] 0 true]⟩
  | _, _ => noSpec
def s_subO : Spec := fun args S => match args, S with
  | [.ptr b 0 0, .agg [.int .i64 p, .int .i64 q], .agg [.int .i64 p', .int .i64 q']], [.arr .bool [bad] 0 true] => ⟨b = 0 ∧ smF p q ∧ smF p' q', .agg [.int .i64 (tv (sbO (p, q) (p', q'))).1, .int .i64 (tv (sbO (p, q) (p', q'))).2], [.arr .bool [bad || !(sbO (p, q) (p', q')).isSome] 0 true]⟩
  | _, _ => noSpec
def s_mulO : Spec := fun args S => match args, S with
  | [.ptr b 0 0, .agg [.int .i64 p, .int .i64 q], .agg [.int .i64 p', .int .i64 q']], [.arr .bool [bad] 0 true] => ⟨b = 0 ∧ smF p q ∧ smF p' q', .agg [.int .i64 (tv (muO (p, q) (p', q'))).1, .int .i64 (tv (muO (p, q) (p', q'))).2], [.arr .bool [bad || !(muO (p, q) (p', q')).isSome] 0 true]⟩
  | _, _ => noSpec
def s_divO : Spec := fun args S => match args, S with
  | [.ptr b 0 0, .agg [.int .i64 p, .int .i64 q], .agg [.int .i64 p', .int .i64 q']], [.arr .bool [bad] 0 true] => ⟨b = 0 ∧ smF p q ∧ smF p' q', .agg [.int .i64 (tv (dvO (p, q) (p', q'))).1, .int .i64 (tv (dvO (p, q) (p', q'))).2], [.arr .bool [bad || !(dvO (p, q) (p', q')).isSome] 0 true]⟩
  | _, _ => noSpec
theorem ok_addO : SpecOk Try.prog 53 s_addO := by
  intro args S h; unfold s_addO at h ⊢; (split at h <;> first | exact False.elim h | skip)
  dsimp only at h ⊢
  rename_i b p q p' q' bad
  have h2 := ok_add [.ptr b 0 0, .agg [.int .i64 p, .int .i64 q], .agg [.int .i64 p', .int .i64 q']] [.arr .bool [bad] 0 true] h
  have e := tv_r (p * q' + p' * q) (q * q')
  simp only [s_add, e.1, e.2.1, e.2.2] at h2
  exact h2
theorem ok_subO : SpecOk Try.prog 25 s_subO := by
  intro args S h; unfold s_subO at h ⊢; (split at h <;> first | exact False.elim h | skip)
  dsimp only at h ⊢
  rename_i b p q p' q' bad
  have h2 := ok_sub [.ptr b 0 0, .agg [.int .i64 p, .int .i64 q], .agg [.int .i64 p', .int .i64 q']] [.arr .bool [bad] 0 true] h
  have e := tv_r (p * q' - p' * q) (q * q')
  simp only [s_sub, e.1, e.2.1, e.2.2] at h2
  exact h2
theorem ok_mulO : SpecOk Try.prog 54 s_mulO := by
  intro args S h; unfold s_mulO at h ⊢; (split at h <;> first | exact False.elim h | skip)
  dsimp only at h ⊢
  rename_i b p q p' q' bad
  have h2 := ok_mul [.ptr b 0 0, .agg [.int .i64 p, .int .i64 q], .agg [.int .i64 p', .int .i64 q']] [.arr .bool [bad] 0 true] h
  have e := tv_r (p * p') (q * q')
  simp only [s_mul, e.1, e.2.1, e.2.2] at h2
  exact h2
theorem dv_r (p q p' q' : Int) : divP p q p' q' = (tv (dvO (p, q) (p', q'))).1 ∧ divQ p q p' q' = (tv (dvO (p, q) (p', q'))).2 ∧ divOk p q p' q' = (dvO (p, q) (p', q')).isSome := by
  have e := tv_r (p * q') (q * p')
  unfold divP divQ divOk dvO
  by_cases h : p' = 0
  · simp [h, tv]
  · simp [h, e.1, e.2.1, e.2.2]
theorem ok_divO : SpecOk Try.prog 29 s_divO := by
  intro args S h; unfold s_divO at h ⊢; (split at h <;> first | exact False.elim h | skip)
  dsimp only at h ⊢
  rename_i b p q p' q' bad
  have h2 := ok_div [.ptr b 0 0, .agg [.int .i64 p, .int .i64 q], .agg [.int .i64 p', .int .i64 q']] [.arr .bool [bad] 0 true] h
  have e := dv_r p q p' q'
  simp only [s_div, e.1, e.2.1, e.2.2] at h2
  exact h2
def s_addZ : Spec := fun args S => match args, S with
  | [.agg [.int .i64 p, .int .i64 q], .agg [.int .i64 p', .int .i64 q']], [] => ⟨smF p q ∧ smF p' q', .tup [.agg [.int .i64 (zv (adO (p, q) (p', q'))).1, .int .i64 (zv (adO (p, q) (p', q'))).2], .int .i64 (oC (adO (p, q) (p', q')))], []⟩
  | _, _ => noSpec
def s_mulZ : Spec := fun args S => match args, S with
  | [.agg [.int .i64 p, .int .i64 q], .agg [.int .i64 p', .int .i64 q']], [] => ⟨smF p q ∧ smF p' q', .tup [.agg [.int .i64 (zv (muO (p, q) (p', q'))).1, .int .i64 (zv (muO (p, q) (p', q'))).2], .int .i64 (oC (muO (p, q) (p', q')))], []⟩
  | _, _ => noSpec
def s_subZ : Spec := fun args S => match args, S with
  | [.agg [.int .i64 p, .int .i64 q], .agg [.int .i64 p', .int .i64 q']], [] => ⟨smF p q ∧ smF p' q', .tup [.agg [.int .i64 (zv (sbO (p, q) (p', q'))).1, .int .i64 (zv (sbO (p, q) (p', q'))).2], .int .i64 (oC (sbO (p, q) (p', q')))], []⟩
  | _, _ => noSpec
def s_divZ : Spec := fun args S => match args, S with
  | [.agg [.int .i64 p, .int .i64 q], .agg [.int .i64 p', .int .i64 q']], [] => ⟨smF p q ∧ smF p' q' ∧ p' ≠ 0, .tup [.agg [.int .i64 (zv (dvO (p, q) (p', q'))).1, .int .i64 (zv (dvO (p, q) (p', q'))).2], .int .i64 (oC (dvO (p, q) (p', q')))], []⟩
  | _, _ => noSpec
theorem ok_l01AddZ : SpecOk Try.prog 82 s_addZ := by
  intro args S h; unfold s_addZ at h ⊢; (split at h <;> first | exact False.elim h | skip)
  dsimp only at h ⊢
  rename_i p q p' q'
  have h2 := ok_l01Add [.agg [.int .i64 p, .int .i64 q], .agg [.int .i64 p', .int .i64 q']] [] h
  have e := zv_r (p * q' + p' * q) (q * q')
  simp only [s_addS, e.1, e.2.1, e.2.2] at h2
  exact h2
theorem ok_l01MulZ : SpecOk Try.prog 81 s_mulZ := by
  intro args S h; unfold s_mulZ at h ⊢; (split at h <;> first | exact False.elim h | skip)
  dsimp only at h ⊢
  rename_i p q p' q'
  have h2 := ok_l01Mul [.agg [.int .i64 p, .int .i64 q], .agg [.int .i64 p', .int .i64 q']] [] h
  have e := zv_r (p * p') (q * q')
  simp only [s_mulS, e.1, e.2.1, e.2.2] at h2
  exact h2
def s_neg : Spec := fun args S => match args, S with
  | [.agg [.int .i64 p, .int .i64 q]], [] => ⟨smF p q, .agg [.int .i64 (-p), .int .i64 q], []⟩
  | _, _ => noSpec
theorem ok_l01Neg : SpecOk Try.prog 83 s_neg := by
  intro args S h; unfold s_neg at h ⊢; (split at h <;> first | exact False.elim h | skip)
  dsimp only at h ⊢
  rename_i p q
  unfold smF at h
  refine funW tabOk (E := []) trivial [] (k := 0) (fn := Try.f83) rfl rfl rfl rfl rfl rfl ?_
  (repeat' ((try (conv => whnf)); first | (with_reducible first | refine And.intro ?_ ?_ | refine WX.of ?_) | exact zc | ((with_reducible refine VC.mk ?_); exact zw) | (with_reducible first | refine splitT ?_ | refine splitF ?_) | ((with_reducible refine splitM.mk (fun hsm => ?_) (fun hsm => ?_)) <;> (try exact zx)) | ((with_reducible refine splitB.mk (fun h => ?_) (fun h => ?_)) <;> (try simp only [zs, ne_eq] at h) <;> (try simp (disch := omega) only [w64] at h) <;> (try exact zx)) | (with_reducible intro hz; (try exact absurd hz (Nat.succ_ne_zero _)))))
  exact ⟨by rw [w64 (by omega), Int.zero_sub]⟩
theorem smF_neg {p q : Int} (h : smF p q) : smF (-p) q := by unfold smF at h ⊢; omega
theorem ok_l01SubZ : SpecOk Try.prog 45 s_subZ := by
  intro args S h; unfold s_subZ at h ⊢; (split at h <;> first | exact False.elim h | skip)
  dsimp only at h ⊢
  rename_i p q p' q'
  have e : adO (p, q) (-p', q') = sbO (p, q) (p', q') := by unfold adO sbO; dsimp only; rw [Int.neg_mul, Int.sub_eq_add_neg]
  refine funW tabOk (E := [(83, s_neg), (82, s_addZ)]) ⟨ok_l01Neg, ok_l01AddZ, trivial⟩ [(1, [(0, 1)])] (k := 0) (fn := Try.f45) rfl rfl rfl rfl rfl rfl ?_
  (repeat' ((try (conv => whnf)); first | (with_reducible first | refine And.intro ?_ ?_ | refine WX.of ?_) | exact zc | ((with_reducible refine VC.mk ?_); exact zw) | ((with_reducible refine VC.mk ?_); exact h.2) | ((with_reducible refine VC.mk ?_); exact ⟨h.1, smF_neg h.2⟩) | (with_reducible first | refine splitT ?_ | refine splitF ?_) | ((with_reducible refine splitM.mk (fun hsm => ?_) (fun hsm => ?_)) <;> (try exact zx)) | ((with_reducible refine splitB.mk (fun h => ?_) (fun h => ?_)) <;> (try simp only [zs, ne_eq] at h) <;> (try simp (disch := omega) only [w64] at h) <;> (try exact zx)) | (with_reducible intro hz; (try exact absurd hz (Nat.succ_ne_zero _)))))
  all_goals exact ⟨by rw [← e]⟩
theorem ok_l01DivZ : SpecOk Try.prog 49 s_divZ := by
  intro args S h; unfold s_divZ at h ⊢; (split at h <;> first | exact False.elim h | skip)
  dsimp only at h ⊢
  rename_i p q p' q'
  obtain ⟨h1, h2, h3⟩ := h
  have hm := smF_mul h1 h2
  have e := zv_r (p * q') (q * p')
  have e2 : dvO (p, q) (p', q') = rO (p * q') (q * p') := if_neg h3
  have hne : q * p' ≠ 0 := Int.mul_ne_zero (by unfold smF at h1; omega) h3
  rw [e2, ← e.1, ← e.2.1, ← e.2.2]
  refine funW tabOk (E := [(87, s_red)]) ⟨ok_l01Reduced, trivial⟩ [] (k := 0) (fn := Try.f49) rfl rfl rfl rfl rfl rfl ?_
  (repeat' ((try (conv => whnf)); first | (with_reducible first | refine And.intro ?_ ?_ | refine WX.of ?_) | exact zc | ((with_reducible refine VC.mk ?_); exact zw) | ((with_reducible refine VC.mk ?_); (simp (disch := omega) only [w64]); (refine ⟨hne, ?_, ?_⟩); (omega); (omega)) | (with_reducible first | refine splitT ?_ | refine splitF ?_) | ((with_reducible refine splitM.mk (fun hsm => ?_) (fun hsm => ?_)) <;> (try exact zx)) | ((with_reducible refine splitB.mk (fun h => ?_) (fun h => ?_)) <;> (try simp only [zs, ne_eq] at h) <;> (try simp (disch := omega) only [w64] at h) <;> (try exact zx)) | (with_reducible intro hz; (try exact absurd hz (Nat.succ_ne_zero _)))))
  all_goals (refine ⟨?_⟩; simp (disch := omega) only [w64]; rfl)
/-- 1 + grows * warm. -/
def stO (g w : FrT) : Option FrT := (muO g w).bind fun m => adO (1, 1) m
def stV (g w : FrT) : FrT := tv (adO (1, 1) (tv (muO g w)))
theorem stV_e {g w s : FrT} (h : stO g w = some s) : stV g w = s := by
  unfold stO at h; unfold stV
  cases hm : muO g w with
  | none => rw [hm] at h; simp at h
  | some m => rw [hm] at h; simp only [Option.bind_some] at h; simp only [tv, Option.getD_some, h]
theorem smF_st (g w : FrT) : smF (stV g w).1 (stV g w).2 := smF_rO _ _
def s_strO : Spec := fun args S => match args, S with
  | [.ptr b 0 0, .agg [.int .i64 p, .int .i64 q], .agg [.int .i64 p', .int .i64 q']], [.arr .bool [bad] 0 true] => ⟨b = 0 ∧ smF p q ∧ smF p' q', .agg [.int .i64 (stV (p, q) (p', q')).1, .int .i64 (stV (p, q) (p', q')).2], [.arr .bool [bad || !(stO (p, q) (p', q')).isSome] 0 true]⟩
  | _, _ => noSpec
theorem smF_mu (a b : FrT) : smF (tv (muO a b)).1 (tv (muO a b)).2 := smF_rO _ _
theorem ok_strO : SpecOk Try.prog 24 s_strO := by
  intro args S h; unfold s_strO at h ⊢; (split at h <;> first | exact False.elim h | skip)
  dsimp only at h ⊢
  rename_i b p q p' q' bad
  obtain ⟨rfl, h1, h2⟩ := h
  have h3 := smF_mu (p, q) (p', q')
  have h4 : smF 1 1 := smF_1 (by omega)
  have hb : (bad || !(muO (p, q) (p', q')).isSome || !(adO (1, 1) (tv (muO (p, q) (p', q')))).isSome) = (bad || !(stO (p, q) (p', q')).isSome) := by
    unfold stO
    cases hm : muO (p, q) (p', q') with
    | none => simp
    | some m => simp [tv]
  refine funW tabOk (E := [(53, s_addO), (54, s_mulO), (26, s_num)]) ⟨ok_addO, ok_mulO, ok_num, trivial⟩ [(1, [(3, 0), (4, 0)])] (k := 1) (fn := Try.f24) rfl rfl rfl rfl rfl rfl ?_
  (repeat' ((try (conv => whnf)); first | (with_reducible first | refine And.intro ?_ ?_ | refine WX.of ?_) | exact zc | ((with_reducible refine VC.mk ?_); exact zw) | ((with_reducible refine VC.mk ?_); exact ⟨rfl, h1, h2⟩) | ((with_reducible refine VC.mk ?_); exact ⟨rfl, h4, h3⟩) | (with_reducible first | refine splitT ?_ | refine splitF ?_) | ((with_reducible refine splitM.mk (fun hsm => ?_) (fun hsm => ?_)) <;> (try exact zx)) | ((with_reducible refine splitB.mk (fun h => ?_) (fun h => ?_)) <;> (try simp only [zs, ne_eq] at h) <;> (try simp (disch := omega) only [w64] at h) <;> (try exact zx)) | (with_reducible intro hz; (try exact absurd hz (Nat.succ_ne_zero _)))))
  all_goals exact ⟨by rw [← hb]⟩
def s_stZ : Spec := fun args S => match args, S with
  | [.agg [.int .i64 p, .int .i64 q], .agg [.int .i64 p', .int .i64 q']], [] => ⟨smF p q ∧ smF p' q', .tup [.agg [.int .i64 (zv (stO (p, q) (p', q'))).1, .int .i64 (zv (stO (p, q) (p', q'))).2], .int .i64 (oC (stO (p, q) (p', q')))], []⟩
  | _, _ => noSpec
theorem oC_n {o : Option FrT} (h : ¬ oC o = 0) : o = none := by cases o with | none => rfl | some v => simp [oC] at h
theorem oC_s {o : Option FrT} (h : oC o = 0) : ∃ v, o = some v := by cases o with | none => simp [oC] at h | some v => exact ⟨v, rfl⟩
theorem ok_stZ : SpecOk Try.prog 44 s_stZ := by
  intro args S h; unfold s_stZ at h ⊢; (split at h <;> first | exact False.elim h | skip)
  dsimp only at h ⊢
  rename_i p q p' q'
  have hq := h
  refine funW tabOk (E := [(81, s_mulZ), (82, s_addZ), (46, s_num)]) ⟨ok_l01MulZ, ok_l01AddZ, ok_l01Whole, trivial⟩ [(4, [(1, 0)])] (k := 0) (fn := Try.f44) rfl rfl rfl rfl rfl rfl ?_
  (repeat' ((try (conv => whnf)); first | (with_reducible first | refine And.intro ?_ ?_ | refine WX.of ?_) | exact zc | ((with_reducible refine VC.mk ?_); exact zw) | ((with_reducible refine VC.mk ?_); exact hq) | (with_reducible first | refine splitT ?_ | refine splitF ?_) | ((with_reducible refine splitM.mk (fun hsm => ?_) (fun hsm => ?_)) <;> (try exact zx)) | ((with_reducible refine splitB.mk (fun h => ?_) (fun h => ?_)) <;> (try simp only [zs, ne_eq] at h) <;> (try simp (disch := omega) only [w64] at h) <;> (try exact zx)) | (with_reducible intro hz; (try exact absurd hz (Nat.succ_ne_zero _)))))
  · have e := oC_n h
    exact ⟨by simp [stO, e, zv, oC]⟩
  · obtain ⟨v, e⟩ := oC_s h
    have hv := smF_ok (rO_f e)
    exact ⟨⟨smF_1 (by omega), by rw [e]; exact hv⟩⟩
  · obtain ⟨v, e⟩ := oC_s h
    refine ⟨?_⟩
    simp only [stO, e, zv, Option.getD_some, Option.bind_some]
/-- The ends of a shot. -/
def enO (g w L st : FrT) : Option FrT := (stO g w).bind fun s => (muO L s).bind fun a => adO st a
def thAt (T : List ThT) (c : ShT) : ThT := (T[c.1.toNat]?).getD ([], (0, 0), 0, 0)
def enT (T : List ThT) (c : ShT) : Option FrT := enO (thAt T c).2.2 c.2.1 (thAt T c).2.1 c.2.2
def okC (ok : Bool) (o : Option FrT) : Int := if ok = true then oC o else 1
theorem en_none {g w L st : FrT} (h : enO g w L st = none) : (false || !(stO g w).isSome || !(muO L (stV g w)).isSome || !(adO st (tv (muO L (stV g w)))).isSome) = true := by
  unfold enO at h
  cases h1 : stO g w with
  | none => simp
  | some s =>
    rw [h1] at h
    simp only [Option.bind_some] at h
    rw [stV_e h1]
    cases h2 : muO L s with
    | none => simp
    | some a =>
      rw [h2] at h
      simp only [Option.bind_some] at h
      simp [tv, h]
theorem en_some {g w L st e : FrT} (h : enO g w L st = some e) : (false || !(stO g w).isSome || !(muO L (stV g w)).isSome || !(adO st (tv (muO L (stV g w)))).isSome) = false ∧ tv (adO st (tv (muO L (stV g w)))) = e := by
  unfold enO at h
  cases h1 : stO g w with
  | none => rw [h1] at h; simp at h
  | some s =>
    rw [h1] at h
    simp only [Option.bind_some] at h
    rw [stV_e h1]
    cases h2 : muO L s with
    | none => rw [h2] at h; simp at h
    | some a =>
      rw [h2] at h
      simp only [Option.bind_some] at h
      simp [tv, h]
theorem bn_at {up uq vp gp gq : Int} {E : List (Int × Int)} {T : List ThT} (h : bnB up uq vp gp gq E T = true) {k : Nat} {a : ThT} (ha : T[k]? = some a) : fOk a.2.1.1 a.2.1.2 = true ∧ fOk a.2.2.1 a.2.2.2 = true ∧ gwB a.2.2.1 a.2.2.2 = true := by
  unfold bnB at h
  rw [Bool.and_eq_true] at h
  have := allI_at h.2 ha
  unfold thB wiB at this
  simp only [Bool.and_eq_true] at this
  have hg := this.2.2
  have hg2 := hg
  unfold gwB at hg2
  simp only [Bool.and_eq_true] at hg2
  exact ⟨this.2.1.1.1, hg2.1.1, hg⟩
theorem bn_g {up uq vp gp gq : Int} {E : List (Int × Int)} {T : List ThT} (h : bnB up uq vp gp gq E T = true) : fOk gp gq = true ∧ gwB gp gq = true ∧ fOk up uq = true ∧ (2 ≤ vp ∧ vp ≤ 40) ∧ scB up uq E = true := by
  unfold bnB at h
  simp only [Bool.and_eq_true, decide_eq_true_eq] at h
  obtain ⟨⟨⟨⟨hs, hv⟩, hg⟩, hT⟩, _⟩ := h
  have hs2 := hs
  unfold gwB at hg
  unfold scB at hs2
  simp only [Bool.and_eq_true] at hs2
  refine ⟨?_, hg, hs2.1.1.1, hv, hs⟩
  simp only [Bool.and_eq_true] at hg
  exact hg.1.1
theorem sh_at {m : Nat} {i wp wq sp sq : Int} (h : shB m (i, (wp, wq), sp, sq) = true) : (0 ≤ i ∧ i ≤ (m : Int) - 1) ∧ fOk wp wq = true ∧ (wp.natAbs : Int) ≤ 100 * wq ∧ fOk sp sq = true := by
  unfold shB at h
  simp only [Bool.and_eq_true, decide_eq_true_eq] at h
  exact ⟨h.1.1.1, h.1.1.2, h.1.2, h.2⟩
def s_ends : Spec := fun args S => match args, S with
  | [.agg [.int .i64 up, .int .i64 uq, .sl 0 s n x, .int .i64 vp, .bool vb, .int .i64 gp, .int .i64 gq, .sl 1 t m y], .agg [.int .i64 i, .int .i64 wp, .int .i64 wq, .int .i64 sp, .int .i64 sq]], [.arr (.prod (.int .i64) (.int .i64)) l 2 wr, .arr (.prod .str (.prod (.prod (.int .i64) (.int .i64)) (.prod (.int .i64) (.int .i64)))) T 5 wT] => ⟨(s + n ≤ l.length ∧ n ≤ 1048576) ∧ (t + m ≤ T.length ∧ m ≤ 1048576) ∧ ∀ (j : Nat) (a : ThT), T[j]? = some a → a.1.length < 9223372036854775808, .tup [.agg [.int .i64 (if okC (bnB up uq vp gp gq (seg l s n) (seg T t m) && shB m (i, (wp, wq), sp, sq)) (enT (seg T t m) (i, (wp, wq), sp, sq)) = 0 then sp else 0), .int .i64 (if okC (bnB up uq vp gp gq (seg l s n) (seg T t m) && shB m (i, (wp, wq), sp, sq)) (enT (seg T t m) (i, (wp, wq), sp, sq)) = 0 then sq else 0)], .agg [.int .i64 (if okC (bnB up uq vp gp gq (seg l s n) (seg T t m) && shB m (i, (wp, wq), sp, sq)) (enT (seg T t m) (i, (wp, wq), sp, sq)) = 0 then (zv (enT (seg T t m) (i, (wp, wq), sp, sq))).1 else 0), .int .i64 (if okC (bnB up uq vp gp gq (seg l s n) (seg T t m) && shB m (i, (wp, wq), sp, sq)) (enT (seg T t m) (i, (wp, wq), sp, sq)) = 0 then (zv (enT (seg T t m) (i, (wp, wq), sp, sq))).2 else 0)], .int .i64 (okC (bnB up uq vp gp gq (seg l s n) (seg T t m) && shB m (i, (wp, wq), sp, sq)) (enT (seg T t m) (i, (wp, wq), sp, sq)))], [.arr (.prod (.int .i64) (.int .i64)) l 2 wr, .arr (.prod .str (.prod (.prod (.int .i64) (.int .i64)) (.prod (.int .i64) (.int .i64)))) T 5 wT]⟩
  | _, _ => noSpec
theorem ok_EndsOfI : SpecOk Try.prog 23 s_ends := by
  intro args S h; unfold s_ends at h ⊢; (split at h <;> first | exact False.elim h | skip)
  dsimp only at h ⊢
  rename_i up uq s n x vp vb gp gq t m y i wp wq sp sq l wr T wT
  have hq := h
  have hM := seg_len h.2.1.1
  cases hk : (bnB up uq vp gp gq (seg l s n) (seg T t m) && shB m (i, (wp, wq), sp, sq)) with
  | false =>
    refine funW tabOk (E := [(52, s_vShot), (24, s_strO), (54, s_mulO), (53, s_addO)]) ⟨ok_ValidShotI, ok_strO, ok_mulO, ok_addO, trivial⟩ [(4, [(2, 1), (2, 2), (5, 1), (14, 0), (14, 1), (14, 2)]), (7, [(2, 1)])] (k := 2) (fn := Try.f23) rfl rfl rfl rfl rfl rfl ?_
    (repeat' ((try (conv => whnf)); first | (with_reducible first | refine And.intro ?_ ?_ | refine WX.of ?_) | exact zc | ((with_reducible refine VC.mk ?_); exact zw) | ((with_reducible refine VC.mk ?_); exact hq) | ((with_reducible refine splitT_of ?_ ?_); (focus (simp only [hk, Bool.not_true, Bool.not_false, decide_true, decide_false]; done))) | ((with_reducible refine splitF_of ?_ ?_); (focus (simp only [hk, Bool.not_true, Bool.not_false, decide_true, decide_false]; done))) | (with_reducible first | refine splitT ?_ | refine splitF ?_) | ((with_reducible refine splitM.mk (fun hsm => ?_) (fun hsm => ?_)) <;> (try exact zx)) | ((with_reducible refine splitB.mk (fun h => ?_) (fun h => ?_)) <;> (try simp only [zs, ne_eq] at h) <;> (try simp (disch := omega) only [w64] at h) <;> (try exact zx)) | (with_reducible intro hz; (try exact absurd hz (Nat.succ_ne_zero _)))))
    all_goals exact ⟨by simp [okC]⟩
  | true =>
    have hk2 := hk
    rw [Bool.and_eq_true] at hk2
    have hs := sh_at hk2.2
    obtain ⟨⟨nm, ⟨Lp, Lq⟩, tp, tq⟩, ha⟩ := get_some (l := seg T t m) (i := i.toNat) (by omega)
    have hb := bn_at hk2.1 ha
    dsimp only at hb
    have e : thAt (seg T t m) (i, (wp, wq), sp, sq) = (nm, (Lp, Lq), tp, tq) := by unfold thAt; rw [ha]; rfl
    have hst := smF_st (tp, tq) (wp, wq)
    have hmu := smF_mu (Lp, Lq) (stV (tp, tq) (wp, wq))
    cases he : enO (tp, tq) (wp, wq) (Lp, Lq) (sp, sq) with
    | none =>
      have hbad := en_none he
      have hET : enT (seg T t m) (i, (wp, wq), sp, sq) = none := by unfold enT; rw [e]; exact he
      rw [hET]
      refine funW tabOk (E := [(52, s_vShot), (24, s_strO), (54, s_mulO), (53, s_addO)]) ⟨ok_ValidShotI, ok_strO, ok_mulO, ok_addO, trivial⟩ [(4, [(2, 1), (2, 2), (5, 1), (14, 0), (14, 1), (14, 2)]), (7, [(2, 1)])] (k := 2) (fn := Try.f23) rfl rfl rfl rfl rfl rfl ?_
      (repeat' ((try (conv => whnf)); first | (with_reducible first | refine And.intro ?_ ?_ | refine WX.of ?_) | exact zc | ((with_reducible refine VC.mk ?_); exact zw) | ((with_reducible refine VC.mk ?_); exact hq) | ((with_reducible refine VC.mk ?_); exact ⟨rfl, smF_ok hb.2.1, smF_ok hs.2.1⟩) | ((with_reducible refine VC.mk ?_); exact ⟨rfl, smF_ok hb.1, hst⟩) | ((with_reducible refine VC.mk ?_); exact ⟨rfl, smF_ok hs.2.2.2, hmu⟩) | ((with_reducible refine splitT_of ?_ ?_); (focus (simp only [hk, hbad, Bool.not_true, Bool.not_false, decide_true, decide_false]; done))) | ((with_reducible refine splitF_of ?_ ?_); (focus (simp only [hk, hbad, Bool.not_true, Bool.not_false, decide_true, decide_false]; done))) | with_reducible refine atL_p (seg_get ha).1 ?_ | (with_reducible first | refine splitT ?_ | refine splitF ?_) | ((with_reducible refine splitM.mk (fun hsm => ?_) (fun hsm => ?_)) <;> (try exact zx)) | ((with_reducible refine splitB.mk (fun h => ?_) (fun h => ?_)) <;> (try simp only [zs, ne_eq] at h) <;> (try simp (disch := omega) only [w64] at h) <;> (try exact zx)) | (with_reducible intro hz; (try exact absurd hz (Nat.succ_ne_zero _)))))
    | some v =>
      have hbad := en_some he
      have hET : enT (seg T t m) (i, (wp, wq), sp, sq) = some v := by unfold enT; rw [e]; exact he
      rw [hET]
      refine funW tabOk (E := [(52, s_vShot), (24, s_strO), (54, s_mulO), (53, s_addO)]) ⟨ok_ValidShotI, ok_strO, ok_mulO, ok_addO, trivial⟩ [(4, [(2, 1), (2, 2), (5, 1), (14, 0), (14, 1), (14, 2)]), (7, [(2, 1)])] (k := 2) (fn := Try.f23) rfl rfl rfl rfl rfl rfl ?_
      (repeat' ((try (conv => whnf)); first | (with_reducible first | refine And.intro ?_ ?_ | refine WX.of ?_) | exact zc | ((with_reducible refine VC.mk ?_); exact zw) | ((with_reducible refine VC.mk ?_); exact hq) | ((with_reducible refine VC.mk ?_); exact ⟨rfl, smF_ok hb.2.1, smF_ok hs.2.1⟩) | ((with_reducible refine VC.mk ?_); exact ⟨rfl, smF_ok hb.1, hst⟩) | ((with_reducible refine VC.mk ?_); exact ⟨rfl, smF_ok hs.2.2.2, hmu⟩) | ((with_reducible refine splitT_of ?_ ?_); (focus (simp only [hk, hbad.1, Bool.not_true, Bool.not_false, decide_true, decide_false]; done))) | ((with_reducible refine splitF_of ?_ ?_); (focus (simp only [hk, hbad.1, Bool.not_true, Bool.not_false, decide_true, decide_false]; done))) | with_reducible refine atL_p (seg_get ha).1 ?_ | (with_reducible first | refine splitT ?_ | refine splitF ?_) | ((with_reducible refine splitM.mk (fun hsm => ?_) (fun hsm => ?_)) <;> (try exact zx)) | ((with_reducible refine splitB.mk (fun h => ?_) (fun h => ?_)) <;> (try simp only [zs, ne_eq] at h) <;> (try simp (disch := omega) only [w64] at h) <;> (try exact zx)) | (with_reducible intro hz; (try exact absurd hz (Nat.succ_ne_zero _)))))
      exact ⟨by rw [← hbad.2]; rfl⟩
theorem stO_f {g w s : FrT} (h : stO g w = some s) : fOk s.1 s.2 = true := by
  unfold stO at h
  cases hm : muO g w with
  | none => rw [hm] at h; simp at h
  | some m => rw [hm] at h; exact rO_f h
theorem oC_3 {o : Option FrT} (h : ¬ oC o = 0) : oC o = 3 := by rw [oC_n h]; rfl
theorem en_1 {g w L st : FrT} (h : ¬ oC (stO g w) = 0) : enO g w L st = none ∧ oC (stO g w) = 3 := ⟨by unfold enO; rw [oC_n h]; rfl, oC_3 h⟩
theorem en_2 {g w L st : FrT} (h : oC (stO g w) = 0) (h2 : ¬ oC (muO L (zv (stO g w))) = 0) : enO g w L st = none ∧ oC (muO L (zv (stO g w))) = 3 := by
  obtain ⟨v, ev⟩ := oC_s h
  refine ⟨?_, oC_3 h2⟩
  have := oC_n h2
  rw [ev] at this
  unfold enO; rw [ev]
  show (muO L v).bind _ = none
  rw [show muO L v = none from this]; rfl
theorem en_3 {g w L st : FrT} (h : oC (stO g w) = 0) (h2 : oC (muO L (zv (stO g w))) = 0) : enO g w L st = adO st (zv (muO L (zv (stO g w)))) := by
  obtain ⟨v, ev⟩ := oC_s h
  obtain ⟨a, ea⟩ := oC_s h2
  rw [ev] at ea
  unfold enO; rw [ev]
  show (muO L v).bind _ = adO st (zv (muO L v))
  rw [show muO L v = some a from ea]; rfl
def s_l07Ends : Spec := fun args S => match args, S with
  | [.ptr 0 0 0, .ptr 1 0 0], [.box [.int .i64 up, .int .i64 uq, .sl 2 s n x, .int .i64 vp, .bool vb, .int .i64 gp, .int .i64 gq, .sl 3 t m y] true false, .arr (.prod (.int .i64) (.prod (.prod (.int .i64) (.int .i64)) (.prod (.int .i64) (.int .i64)))) [c] 0 true, .arr (.prod (.int .i64) (.int .i64)) l 2 wr, .arr (.prod .str (.prod (.prod (.int .i64) (.int .i64)) (.prod (.int .i64) (.int .i64)))) T 5 wT] => ⟨(t + m ≤ T.length ∧ m ≤ 1048576) ∧ bnB up uq vp gp gq (seg l s n) (seg T t m) = true ∧ shB m c = true, .tup [.agg [.int .i64 (if oC (enT (seg T t m) c) = 0 then c.2.2.1 else 0), .int .i64 (if oC (enT (seg T t m) c) = 0 then c.2.2.2 else 0)], .agg [.int .i64 (zv (enT (seg T t m) c)).1, .int .i64 (zv (enT (seg T t m) c)).2], .int .i64 (oC (enT (seg T t m) c))], [.box [.int .i64 up, .int .i64 uq, .sl 2 s n x, .int .i64 vp, .bool vb, .int .i64 gp, .int .i64 gq, .sl 3 t m y] true false, .arr (.prod (.int .i64) (.prod (.prod (.int .i64) (.int .i64)) (.prod (.int .i64) (.int .i64)))) [c] 0 true, .arr (.prod (.int .i64) (.int .i64)) l 2 wr, .arr (.prod .str (.prod (.prod (.int .i64) (.int .i64)) (.prod (.int .i64) (.int .i64)))) T 5 wT]⟩
  | _, _ => noSpec
set_option maxHeartbeats 1600000 in
theorem ok_l07Ends : SpecOk Try.prog 43 s_l07Ends := by
  intro args S h; unfold s_l07Ends at h ⊢; (split at h <;> first | exact False.elim h | skip)
  dsimp only at h ⊢
  rename_i up uq s n x vp vb gp gq t m y c l wr T wT
  obtain ⟨i, ⟨wp, wq⟩, sp, sq⟩ := c
  obtain ⟨h1, hb0, hs0⟩ := h
  have hM := seg_len h1.1
  have hs := sh_at hs0
  obtain ⟨⟨nm, ⟨Lp, Lq⟩, tp, tq⟩, ha⟩ := get_some (l := seg T t m) (i := i.toNat) (by have := hs.1; omega)
  have hb := bn_at hb0 ha
  dsimp only at hb
  have e : thAt (seg T t m) (i, (wp, wq), sp, sq) = (nm, (Lp, Lq), tp, tq) := by unfold thAt; rw [ha]; rfl
  have hET : enT (seg T t m) (i, (wp, wq), sp, sq) = enO (tp, tq) (wp, wq) (Lp, Lq) (sp, sq) := by unfold enT; rw [e]
  have hi := hs.1
  rw [hET]
  refine funW tabOk (E := [(44, s_stZ), (81, s_mulZ), (82, s_addZ)]) ⟨ok_stZ, ok_l01MulZ, ok_l01AddZ, trivial⟩ [(2, [(12, 0)]), (5, [(9, 0)]), (8, [(9, 0)]), (11, [(4, 1)])] (k := 4) (fn := Try.f43) rfl rfl rfl rfl rfl rfl ?_
  (repeat' ((try (conv => whnf)); first | (with_reducible first | refine And.intro ?_ ?_ | refine WX.of ?_) | exact zc | ((with_reducible refine VC.mk ?_); exact zw) | ((with_reducible refine VC.mk ?_); exact ⟨smF_ok hb.2.1, smF_ok hs.2.1⟩) | with_reducible refine atL_p (seg_get ha).1 ?_ | ((with_reducible refine VC.mk ?_); exact hi) | (with_reducible first | refine splitT ?_ | refine splitF ?_) | ((with_reducible refine splitM.mk (fun hsm => ?_) (fun hsm => ?_)) <;> (try exact zx)) | ((with_reducible refine splitB.mk (fun h => ?_) (fun h => ?_)) <;> (try simp only [zs, ne_eq] at h) <;> (try simp (disch := omega) only [w64] at h) <;> (try exact zx)) | (with_reducible intro hz; (try exact absurd hz (Nat.succ_ne_zero _)))))
  · obtain ⟨e1, e2⟩ := en_1 (L := (Lp, Lq)) (st := (sp, sq)) h
    refine ⟨?_⟩
    simp only [e1, e2]
    rfl
  · obtain ⟨v, ev⟩ := oC_s h
    exact ⟨⟨smF_ok hb.1, by dsimp only; rw [ev]; exact smF_ok (stO_f ev)⟩⟩
  · rename_i h0
    obtain ⟨e1, e2⟩ := en_2 (st := (sp, sq)) h0 h
    refine ⟨?_⟩
    simp only [e1, e2]
    rfl
  · obtain ⟨v, ev⟩ := oC_s h
    exact ⟨⟨smF_ok hs.2.2.2, by dsimp only; rw [ev]; exact smF_ok (rO_f ev)⟩⟩
  · rename_i h0 h2
    have e1 := en_3 (st := (sp, sq)) h0 h2
    have e2 := oC_n h
    refine ⟨?_⟩
    rw [e1, show adO (sp, sq) (zv (muO (Lp, Lq) (zv (stO (tp, tq) (wp, wq))))) = none from e2]
    rfl
  · rename_i h0 h2
    have e1 := en_3 (st := (sp, sq)) h0 h2
    refine ⟨?_⟩
    rw [e1, if_pos h, if_pos h, h]
end Go.Proofs.Ytbmejhabgoimeaa.Eng
set_option linter.unusedVariables false
set_option linter.unusedSimpArgs false
namespace Go.Proofs.Ytbmejhabgoimeaa.Eng
open Go Go.RowKit
set_option maxRecDepth 100000
/-- The value of a fraction. -/
def rv (a : FrT) : Rat := (a.1 : Rat) / (a.2 : Rat)
theorem pos_q {q : Int} (h : 0 < q) : (0 : Rat) < (q : Rat) := by exact_mod_cast h
theorem rv_lei {p q r s : Int} (h1 : 0 < q) (h2 : 0 < s) : (p : Rat) / q ≤ r / s ↔ p * s ≤ r * q := by
  have hq := pos_q h1
  have hs := pos_q h2
  have h3 : (r : Rat) / s < p / q ↔ r * q < p * s := by
    rw [Rat.div_lt_iff hs]
    rw [show (p : Rat) / q * s = (p * s) / q by grind]
    rw [Rat.lt_div_iff hq]
    norm_cast
  rw [← Rat.not_lt, h3]
  omega
theorem rv_le {a b : FrT} (h1 : 0 < a.2) (h2 : 0 < b.2) : rv a ≤ rv b ↔ a.1 * b.2 ≤ b.1 * a.2 := rv_lei h1 h2
theorem rv_lt {a b : FrT} (h1 : 0 < a.2) (h2 : 0 < b.2) : rv a < rv b ↔ a.1 * b.2 < b.1 * a.2 := by
  rw [← Rat.not_le, rv_le h2 h1]; omega
theorem rv_num (n : Int) : rv (n, 1) = n := by unfold rv; dsimp only; grind
theorem rv_rO {p q : Int} {v : FrT} (hq : 0 < q) (h : rO p q = some v) : rv v = (p : Rat) / q ∧ 0 < v.2 := by
  unfold rO at h
  split at h
  · obtain rfl := Option.some.inj h
    have hb := red_back (p := p) hq
    have hg := redG_pos (p := p) (q := q) (by omega)
    have hQ := redQ_pos (p := p) hq
    refine ⟨?_, hQ⟩
    have hg' := pos_q hg
    have hQ' := pos_q hQ
    have e1 : (p : Rat) = redG p q * redP p q := by exact_mod_cast hb.1
    have e2 : (q : Rat) = redG p q * redQ p q := by exact_mod_cast hb.2
    unfold rv
    rw [e1, e2]
    dsimp only
    grind
  · simp at h
theorem rv_ad {a b v : FrT} (ha : 0 < a.2) (hb : 0 < b.2) (h : adO a b = some v) : rv v = rv a + rv b ∧ 0 < v.2 := by
  have h1 := rv_rO (Int.mul_pos ha hb) h
  refine ⟨?_, h1.2⟩
  rw [h1.1]
  unfold rv
  have := pos_q ha
  have := pos_q hb
  push_cast
  grind
theorem rv_sb {a b v : FrT} (ha : 0 < a.2) (hb : 0 < b.2) (h : sbO a b = some v) : rv v = rv a - rv b ∧ 0 < v.2 := by
  have h1 := rv_rO (Int.mul_pos ha hb) h
  refine ⟨?_, h1.2⟩
  rw [h1.1]
  unfold rv
  have := pos_q ha
  have := pos_q hb
  push_cast
  grind
theorem rv_mu {a b v : FrT} (ha : 0 < a.2) (hb : 0 < b.2) (h : muO a b = some v) : rv v = rv a * rv b ∧ 0 < v.2 := by
  have h1 := rv_rO (Int.mul_pos ha hb) h
  refine ⟨?_, h1.2⟩
  rw [h1.1]
  unfold rv
  have := pos_q ha
  have := pos_q hb
  push_cast
  grind
theorem rv_dv {a b v : FrT} (ha : 0 < a.2) (hb : 0 < b.2) (hp : 0 < b.1) (h : dvO a b = some v) : rv v = rv a / rv b ∧ 0 < v.2 := by
  unfold dvO at h
  rw [if_neg (by omega)] at h
  have h1 := rv_rO (Int.mul_pos ha hp) h
  refine ⟨?_, h1.2⟩
  rw [h1.1]
  unfold rv
  have := pos_q ha
  have := pos_q hb
  have := pos_q hp
  push_cast
  grind
theorem fOk_q {p q : Int} (h : fOk p q = true) : 0 < q := by have := smF_ok h; unfold smF at this; omega
theorem rv_pos {a : FrT} (h : 0 < a.2) : 0 < rv a ↔ 0 < a.1 := by
  have h2 := rv_lt (a := (0, 1)) (b := a) (by decide) h
  rw [show rv (0, 1) = 0 from rv_num 0] at h2
  rw [h2]; dsimp only; omega
theorem rv_nn {a : FrT} (h : 0 < a.2) : 0 ≤ rv a ↔ 0 ≤ a.1 := by
  have h2 := rv_le (a := (0, 1)) (b := a) (by decide) h
  rw [show rv (0, 1) = 0 from rv_num 0] at h2
  rw [h2]; dsimp only; omega
end Go.Proofs.Ytbmejhabgoimeaa.Eng
set_option linter.unusedVariables false
set_option linter.unusedSimpArgs false
namespace Go.Proofs.Ytbmejhabgoimeaa.Eng
open Go Go.RowKit
set_option maxRecDepth 100000
theorem pr_eta {α β : Type} (p : α × β) : (p.1, p.2) = p := rfl
/-- A length at 0 degrees. -/
def bkO (g1 g2 w a : FrT) : Option FrT := (stO g1 w).bind fun c => (stO g2 w).bind fun t => (muO a c).bind fun d => dvO d t
def lnO (g1 g2 w f k : FrT) : Option FrT := (sbO k f).bind fun d => bkO g1 g2 w d
def lnT (g : FrT) (T : List ThT) (c : ShT) (f k : FrT) : Option FrT := lnO g (thAt T c).2.2 c.2.1 f k
/-- What cold answers, and what it notes. -/
def bkV (g1 g2 w a : FrT) : FrT := tv (dvO (tv (muO a (stV g1 w))) (stV g2 w))
def bkB (g1 g2 w a : FrT) : Bool := !(stO g1 w).isSome || !(muO a (stV g1 w)).isSome || !(stO g2 w).isSome || !(dvO (tv (muO a (stV g1 w))) (stV g2 w)).isSome
theorem bk_e (g1 g2 w a : FrT) : bkB g1 g2 w a = !(bkO g1 g2 w a).isSome ∧ ∀ v, bkO g1 g2 w a = some v → bkV g1 g2 w a = v := by
  unfold bkB bkV bkO
  cases h1 : stO g1 w with
  | none => simp
  | some c =>
    rw [stV_e h1]
    simp only [Option.bind_some]
    cases h2 : stO g2 w with
    | none => simp
    | some t =>
      rw [stV_e h2]
      simp only [Option.bind_some]
      cases h3 : muO a c with
      | none => simp
      | some d =>
        simp only [Option.bind_some, tv, Option.getD_some, Option.isSome_some, Bool.not_true, Bool.false_or, true_and]
        intro v h4; rw [h4]; rfl
theorem smF_sb (a b : FrT) : smF (tv (sbO a b)).1 (tv (sbO a b)).2 := smF_rO _ _
def s_cold : Spec := fun args S => match args, S with
  | [.ptr b 0 0, .agg [.int .i64 up, .int .i64 uq, .sl 1 s n x, .int .i64 vp, .bool vb, .int .i64 gp, .int .i64 gq, .sl 2 t m y], .agg [.int .i64 i, .int .i64 wp, .int .i64 wq, .int .i64 sp, .int .i64 sq], .agg [.int .i64 ap, .int .i64 aq]], [.arr .bool [bad] 0 true, .arr (.prod (.int .i64) (.int .i64)) l 2 wr, .arr (.prod .str (.prod (.prod (.int .i64) (.int .i64)) (.prod (.int .i64) (.int .i64)))) T 5 wT] => ⟨b = 0 ∧ (t + m ≤ T.length ∧ m ≤ 1048576) ∧ (0 ≤ i ∧ i ≤ (m : Int) - 1) ∧ smF gp gq ∧ smF wp wq ∧ smF ap aq ∧ ∀ (a : ThT), (seg T t m)[i.toNat]? = some a → smF a.2.2.1 a.2.2.2, .agg [.int .i64 (bkV (gp, gq) (thAt (seg T t m) (i, (wp, wq), sp, sq)).2.2 (wp, wq) (ap, aq)).1, .int .i64 (bkV (gp, gq) (thAt (seg T t m) (i, (wp, wq), sp, sq)).2.2 (wp, wq) (ap, aq)).2], [.arr .bool [bad || bkB (gp, gq) (thAt (seg T t m) (i, (wp, wq), sp, sq)).2.2 (wp, wq) (ap, aq)] 0 true, .arr (.prod (.int .i64) (.int .i64)) l 2 wr, .arr (.prod .str (.prod (.prod (.int .i64) (.int .i64)) (.prod (.int .i64) (.int .i64)))) T 5 wT]⟩
  | _, _ => noSpec
set_option maxHeartbeats 1600000 in
theorem ok_cold : SpecOk Try.prog 65 s_cold := by
  intro args S h; unfold s_cold at h ⊢; (split at h <;> first | exact False.elim h | skip)
  dsimp only at h ⊢
  rename_i b up uq s n x vp vb gp gq t m y i wp wq sp sq ap aq bad l wr T wT
  obtain ⟨rfl, h1, hi, hg, hw, ha0, hth⟩ := h
  have hM := seg_len h1.1
  obtain ⟨⟨nm, ⟨Lp, Lq⟩, tp, tq⟩, ha⟩ := get_some (l := seg T t m) (i := i.toNat) (by omega)
  have e : thAt (seg T t m) (i, (wp, wq), sp, sq) = (nm, (Lp, Lq), tp, tq) := by unfold thAt; rw [ha]; rfl
  have hsf := hth _ ha
  dsimp only at hsf
  rw [e]
  have h2 := smF_st (gp, gq) (wp, wq)
  have h3 := smF_st (tp, tq) (wp, wq)
  have h4 := smF_mu (ap, aq) (stV (gp, gq) (wp, wq))
  refine funW tabOk (E := [(24, s_strO), (54, s_mulO), (29, s_divO)]) ⟨ok_strO, ok_mulO, ok_divO, trivial⟩ [(1, [(2, 1), (12, 0), (12, 1), (14, 0), (14, 1), (17, 0), (17, 1), (19, 0), (19, 1)])] (k := 3) (fn := Try.f65) rfl rfl rfl rfl rfl rfl ?_
  (repeat' ((try (conv => whnf)); first | (with_reducible first | refine And.intro ?_ ?_ | refine WX.of ?_) | exact zc | ((with_reducible refine VC.mk ?_); exact zw) | ((with_reducible refine VC.mk ?_); exact ⟨rfl, hg, hw⟩) | ((with_reducible refine VC.mk ?_); exact ⟨rfl, hsf, hw⟩) | ((with_reducible refine VC.mk ?_); exact ⟨rfl, ha0, h2⟩) | ((with_reducible refine VC.mk ?_); exact ⟨rfl, h4, h3⟩) | ((with_reducible refine VC.mk ?_); exact hi) | with_reducible refine atL_p (seg_get ha).1 ?_ | (with_reducible first | refine splitT ?_ | refine splitF ?_) | ((with_reducible refine splitM.mk (fun hsm => ?_) (fun hsm => ?_)) <;> (try exact zx)) | ((with_reducible refine splitB.mk (fun h => ?_) (fun h => ?_)) <;> (try simp only [zs, ne_eq] at h) <;> (try simp (disch := omega) only [w64] at h) <;> (try exact zx)) | (with_reducible intro hz; (try exact absurd hz (Nat.succ_ne_zero _)))))
  all_goals exact ⟨by simp only [bkB, Bool.or_assoc]⟩
theorem st_pos {g w t : FrT} (hg : gwB g.1 g.2 = true) (hw : fOk w.1 w.2 = true) (ha : (w.1.natAbs : Int) ≤ 100 * w.2) (h : stO g w = some t) : 0 < t.1 := by
  obtain ⟨g1, g2⟩ := g
  obtain ⟨w1, w2⟩ := w
  dsimp only at hg hw ha
  unfold gwB at hg
  simp only [Bool.and_eq_true, decide_eq_true_eq] at hg
  obtain ⟨⟨hgf, hg0⟩, hgk⟩ := hg
  have hgs := smF_ok hgf
  have hws := smF_ok hw
  unfold smF at hgs hws
  have a1 : 1000 * g1 * (w1.natAbs : Int) ≤ g2 * (100 * w2) := Int.mul_le_mul hgk ha (by omega) (by omega)
  have a2 : g1 * (-(w1.natAbs : Int)) ≤ g1 * w1 := Int.mul_le_mul_of_nonneg_left (by omega) hg0
  have a3 := mulPos hgs.2.1 hws.2.1
  have e1 : 1000 * g1 * (w1.natAbs : Int) = 1000 * (g1 * (w1.natAbs : Int)) := Int.mul_assoc ..
  have e2 : g2 * (100 * w2) = 100 * (g2 * w2) := Int.mul_left_comm ..
  rw [e1, e2] at a1
  rw [Int.mul_neg] at a2
  unfold stO at h
  cases hm : muO (g1, g2) (w1, w2) with
  | none => rw [hm] at h; simp at h
  | some m =>
    rw [hm] at h
    simp only [Option.bind_some] at h
    unfold muO rO at hm
    split at hm
    · obtain rfl := Option.some.inj hm
      dsimp only at h
      have b1 := red_back (p := g1 * w1) (q := g2 * w2) (by omega)
      have hG := redG_pos (p := g1 * w1) (q := g2 * w2) (by omega)
      have hQ := redQ_pos (p := g1 * w1) (q := g2 * w2) (by omega)
      unfold adO rO at h
      split at h
      · obtain rfl := Option.some.inj h
        dsimp only
        have hX : 0 < 1 * redQ (g1 * w1) (g2 * w2) + redP (g1 * w1) (g2 * w2) * 1 := by
          apply Classical.byContradiction; intro hn
          have : redG (g1 * w1) (g2 * w2) * (1 * redQ (g1 * w1) (g2 * w2) + redP (g1 * w1) (g2 * w2) * 1) ≤ 0 := by
            have := Int.mul_nonneg (show 0 ≤ redG (g1 * w1) (g2 * w2) by omega) (show 0 ≤ -(1 * redQ (g1 * w1) (g2 * w2) + redP (g1 * w1) (g2 * w2) * 1) by omega)
            rw [Int.mul_neg] at this; omega
          rw [Int.mul_add, Int.one_mul, Int.mul_one, ← b1.1, ← b1.2] at this
          omega
        have b2 := red_back (p := 1 * redQ (g1 * w1) (g2 * w2) + redP (g1 * w1) (g2 * w2) * 1) (q := 1 * redQ (g1 * w1) (g2 * w2)) (by omega)
        have hG2 := redG_pos (p := 1 * redQ (g1 * w1) (g2 * w2) + redP (g1 * w1) (g2 * w2) * 1) (q := 1 * redQ (g1 * w1) (g2 * w2)) (by omega)
        apply Classical.byContradiction; intro hn
        have := Int.mul_nonneg (show 0 ≤ redG (1 * redQ (g1 * w1) (g2 * w2) + redP (g1 * w1) (g2 * w2) * 1) (1 * redQ (g1 * w1) (g2 * w2)) by omega) (show 0 ≤ -redP (1 * redQ (g1 * w1) (g2 * w2) + redP (g1 * w1) (g2 * w2) * 1) (1 * redQ (g1 * w1) (g2 * w2)) by omega)
        rw [Int.mul_neg, ← b2.1] at this
        omega
      · simp at h
    · simp at hm
def s_rdgC : Spec := fun args S => match args, S with
  | [.agg [.int .i64 up, .int .i64 uq, .sl 0 s n x, .int .i64 vp, .bool vb, .int .i64 gp, .int .i64 gq, .sl 1 t m y], .agg [.int .i64 i, .int .i64 wp, .int .i64 wq, .int .i64 sp, .int .i64 sq], .agg [.int .i64 fp, .int .i64 fq], .agg [.int .i64 kp, .int .i64 kq]], [.arr (.prod (.int .i64) (.int .i64)) l 2 wr, .arr (.prod .str (.prod (.prod (.int .i64) (.int .i64)) (.prod (.int .i64) (.int .i64)))) T 5 wT] => ⟨(s + n ≤ l.length ∧ n ≤ 1048576) ∧ (t + m ≤ T.length ∧ m ≤ 1048576) ∧ ∀ (j : Nat) (a : ThT), T[j]? = some a → a.1.length < 9223372036854775808, .int .i64 (if (bnB up uq vp gp gq (seg l s n) (seg T t m) && shB m (i, (wp, wq), sp, sq) && (fOk fp fq && fOk kp kq)) = true then 0 else 1), [.arr (.prod (.int .i64) (.int .i64)) l 2 wr, .arr (.prod .str (.prod (.prod (.int .i64) (.int .i64)) (.prod (.int .i64) (.int .i64)))) T 5 wT]⟩
  | _, _ => noSpec
theorem ok_readingsCode : SpecOk Try.prog 64 s_rdgC := by
  intro args S h; unfold s_rdgC at h ⊢; (split at h <;> first | exact False.elim h | skip)
  dsimp only at h ⊢
  rename_i up uq s n x vp vb gp gq t m y i wp wq sp sq fp fq kp kq l wr T wT
  have hq := h
  refine funW tabOk (E := [(52, s_vShot), (70, s_allF)]) ⟨ok_ValidShotI, ok_areValid, trivial⟩ [] (k := 2) (fn := Try.f64) rfl rfl rfl rfl rfl rfl ?_
  (repeat' ((try (conv => whnf)); first | (with_reducible first | refine And.intro ?_ ?_ | refine WX.of ?_) | exact zc | ((with_reducible refine VC.mk ?_); exact zw) | ((with_reducible refine VC.mk ?_); exact hq) | ((with_reducible refine VC.mk ?_); exact ⟨Nat.le_refl 2, (by omega)⟩) | (with_reducible first | refine splitT ?_ | refine splitF ?_) | ((with_reducible refine splitM.mk (fun hsm => ?_) (fun hsm => ?_)) <;> (try exact zx)) | ((with_reducible refine splitB.mk (fun h => ?_) (fun h => ?_)) <;> (try simp only [zs, ne_eq] at h) <;> (try simp (disch := omega) only [w64] at h) <;> (try exact zx)) | (with_reducible intro hz; (try exact absurd hz (Nat.succ_ne_zero _)))))
  all_goals (first | (rw [allF_two] at h) | skip)
  all_goals exact ⟨by simp_all⟩
theorem bn_sf {up uq vp gp gq : Int} {E : List (Int × Int)} {T : List ThT} (h : bnB up uq vp gp gq E T = true) {k : Nat} : ∀ (a : ThT), T[k]? = some a → smF a.2.2.1 a.2.2.2 := fun a ha => smF_ok (bn_at h ha).2.1
def s_len : Spec := fun args S => match args, S with
  | [.agg [.int .i64 up, .int .i64 uq, .sl 0 s n x, .int .i64 vp, .bool vb, .int .i64 gp, .int .i64 gq, .sl 1 t m y], .agg [.int .i64 i, .int .i64 wp, .int .i64 wq, .int .i64 sp, .int .i64 sq], .agg [.int .i64 fp, .int .i64 fq], .agg [.int .i64 kp, .int .i64 kq]], [.arr (.prod (.int .i64) (.int .i64)) l 2 wr, .arr (.prod .str (.prod (.prod (.int .i64) (.int .i64)) (.prod (.int .i64) (.int .i64)))) T 5 wT] => ⟨(s + n ≤ l.length ∧ n ≤ 1048576) ∧ (t + m ≤ T.length ∧ m ≤ 1048576) ∧ ∀ (j : Nat) (a : ThT), T[j]? = some a → a.1.length < 9223372036854775808, .tup [.agg [.int .i64 (if okC (bnB up uq vp gp gq (seg l s n) (seg T t m) && shB m (i, (wp, wq), sp, sq) && (fOk fp fq && fOk kp kq)) (lnT (gp, gq) (seg T t m) (i, (wp, wq), sp, sq) (fp, fq) (kp, kq)) = 0 then (zv (lnT (gp, gq) (seg T t m) (i, (wp, wq), sp, sq) (fp, fq) (kp, kq))).1 else 0), .int .i64 (if okC (bnB up uq vp gp gq (seg l s n) (seg T t m) && shB m (i, (wp, wq), sp, sq) && (fOk fp fq && fOk kp kq)) (lnT (gp, gq) (seg T t m) (i, (wp, wq), sp, sq) (fp, fq) (kp, kq)) = 0 then (zv (lnT (gp, gq) (seg T t m) (i, (wp, wq), sp, sq) (fp, fq) (kp, kq))).2 else 0)], .int .i64 (okC (bnB up uq vp gp gq (seg l s n) (seg T t m) && shB m (i, (wp, wq), sp, sq) && (fOk fp fq && fOk kp kq)) (lnT (gp, gq) (seg T t m) (i, (wp, wq), sp, sq) (fp, fq) (kp, kq)))], [.arr (.prod (.int .i64) (.int .i64)) l 2 wr, .arr (.prod .str (.prod (.prod (.int .i64) (.int .i64)) (.prod (.int .i64) (.int .i64)))) T 5 wT]⟩
  | _, _ => noSpec
set_option maxHeartbeats 1600000 in
theorem ok_LengthFromI : SpecOk Try.prog 33 s_len := by
  intro args S h; unfold s_len at h ⊢; (split at h <;> first | exact False.elim h | skip)
  dsimp only at h ⊢
  rename_i up uq s n x vp vb gp gq t m y i wp wq sp sq fp fq kp kq l wr T wT
  have hq := h
  have hM := seg_len h.2.1.1
  cases hk : (bnB up uq vp gp gq (seg l s n) (seg T t m) && shB m (i, (wp, wq), sp, sq) && (fOk fp fq && fOk kp kq)) with
  | false =>
    refine funW tabOk (E := [(64, s_rdgC), (25, s_subO), (65, s_cold), (60, s_one)]) ⟨ok_readingsCode, ok_subO, ok_cold, ok_one, trivial⟩ [(5, [(2, 1), (3, 1)])] (k := 2) (fn := Try.f33) rfl rfl rfl rfl rfl rfl ?_
    (repeat' ((try (conv => whnf)); first | (with_reducible first | refine And.intro ?_ ?_ | refine WX.of ?_) | exact zc | ((with_reducible refine VC.mk ?_); exact zw) | ((with_reducible refine VC.mk ?_); exact hq) | (with_reducible first | refine splitT ?_ | refine splitF ?_) | ((with_reducible refine splitM.mk (fun hsm => ?_) (fun hsm => ?_)) <;> (try exact zx)) | ((with_reducible refine splitB.mk (fun h => ?_) (fun h => ?_)) <;> (try simp only [zs, ne_eq] at h) <;> (try simp (disch := omega) only [w64] at h) <;> (try exact zx)) | (with_reducible intro hz; (try exact absurd hz (Nat.succ_ne_zero _)))))
    · rw [hk]; exact ⟨by simp [okC]⟩
    all_goals (rw [hk] at h; simp at h)
  | true =>
    have hk2 := hk
    rw [Bool.and_eq_true, Bool.and_eq_true, Bool.and_eq_true] at hk2
    obtain ⟨⟨hb, hs0⟩, hf, hkk⟩ := hk2
    have hs := sh_at hs0
    have hgg := bn_g hb
    have hd := smF_sb (kp, kq) (fp, fq)
    have hsf := bn_sf hb (k := i.toNat)
    have hbk := bk_e (gp, gq) (thAt (seg T t m) (i, (wp, wq), sp, sq)).2.2 (wp, wq) (tv (sbO (kp, kq) (fp, fq)))
    refine funW tabOk (E := [(64, s_rdgC), (25, s_subO), (65, s_cold), (60, s_one)]) ⟨ok_readingsCode, ok_subO, ok_cold, ok_one, trivial⟩ [(5, [(2, 1), (3, 1)])] (k := 2) (fn := Try.f33) rfl rfl rfl rfl rfl rfl ?_
    (repeat' ((try (conv => whnf)); first | (with_reducible first | refine And.intro ?_ ?_ | refine WX.of ?_) | exact zc | ((with_reducible refine VC.mk ?_); exact zw) | ((with_reducible refine VC.mk ?_); exact hq) | ((with_reducible refine VC.mk ?_); exact ⟨rfl, smF_ok hkk, smF_ok hf⟩) | ((with_reducible refine VC.mk ?_); exact ⟨rfl, hq.2.1, hs.1, smF_ok hgg.1, smF_ok hs.2.1, hd, hsf⟩) | (with_reducible first | refine splitT ?_ | refine splitF ?_) | ((with_reducible refine splitM.mk (fun hsm => ?_) (fun hsm => ?_)) <;> (try exact zx)) | ((with_reducible refine splitB.mk (fun h => ?_) (fun h => ?_)) <;> (try simp only [zs, ne_eq] at h) <;> (try simp (disch := omega) only [w64] at h) <;> (try exact zx)) | (with_reducible intro hz; (try exact absurd hz (Nat.succ_ne_zero _)))))
    · rw [hk] at h; simp at h
    · refine ⟨?_⟩
      have hln : lnT (gp, gq) (seg T t m) (i, (wp, wq), sp, sq) (fp, fq) (kp, kq) = (sbO (kp, kq) (fp, fq)).bind fun d => bkO (gp, gq) (thAt (seg T t m) (i, (wp, wq), sp, sq)).2.2 (wp, wq) d := rfl
      rw [hln]
      clear hln
      dsimp only
      generalize (thAt (seg T t m) (i, (wp, wq), sp, sq)).2.2 = th at hbk ⊢
      simp only [pr_eta, hbk.1]
      have hb2 := hbk.2
      cases hsb : sbO (kp, kq) (fp, fq) with
      | none => simp [okC, oC, zv]
      | some dd =>
        rw [hsb] at hb2
        simp only [tv, Option.getD_some] at hb2 ⊢
        simp only [Option.bind_some]
        rcases (bkO (gp, gq) th (wp, wq) dd).eq_none_or_eq_some with hv | ⟨v, hv⟩
        · simp [okC, oC, zv, hv]
        · simp [okC, oC, zv, hv, hb2 v hv]
def s_l07Back : Spec := fun args S => match args, S with
  | [.ptr 0 0 0, .ptr 1 0 0, .agg [.int .i64 ap, .int .i64 aq]], [.box [.int .i64 up, .int .i64 uq, .sl 2 s n x, .int .i64 vp, .bool vb, .int .i64 gp, .int .i64 gq, .sl 3 t m y] true false, .arr (.prod (.int .i64) (.prod (.prod (.int .i64) (.int .i64)) (.prod (.int .i64) (.int .i64)))) [c] 0 true, .arr (.prod (.int .i64) (.int .i64)) l 2 wr, .arr (.prod .str (.prod (.prod (.int .i64) (.int .i64)) (.prod (.int .i64) (.int .i64)))) T 5 wT] => ⟨(t + m ≤ T.length ∧ m ≤ 1048576) ∧ bnB up uq vp gp gq (seg l s n) (seg T t m) = true ∧ shB m c = true ∧ smF ap aq, .tup [.agg [.int .i64 (zv (bkO (gp, gq) (thAt (seg T t m) c).2.2 c.2.1 (ap, aq))).1, .int .i64 (zv (bkO (gp, gq) (thAt (seg T t m) c).2.2 c.2.1 (ap, aq))).2], .int .i64 (oC (bkO (gp, gq) (thAt (seg T t m) c).2.2 c.2.1 (ap, aq)))], [.box [.int .i64 up, .int .i64 uq, .sl 2 s n x, .int .i64 vp, .bool vb, .int .i64 gp, .int .i64 gq, .sl 3 t m y] true false, .arr (.prod (.int .i64) (.prod (.prod (.int .i64) (.int .i64)) (.prod (.int .i64) (.int .i64)))) [c] 0 true, .arr (.prod (.int .i64) (.int .i64)) l 2 wr, .arr (.prod .str (.prod (.prod (.int .i64) (.int .i64)) (.prod (.int .i64) (.int .i64)))) T 5 wT]⟩
  | _, _ => noSpec
set_option maxHeartbeats 1600000 in
theorem ok_l07Back : SpecOk Try.prog 98 s_l07Back := by
  intro args S h; unfold s_l07Back at h ⊢; (split at h <;> first | exact False.elim h | skip)
  dsimp only at h ⊢
  rename_i ap aq up uq s n x vp vb gp gq t m y c l wr T wT
  obtain ⟨i, ⟨wp, wq⟩, sp, sq⟩ := c
  obtain ⟨h1, hb0, hs0, ha0⟩ := h
  have hM := seg_len h1.1
  have hs := sh_at hs0
  have hgg := bn_g hb0
  obtain ⟨⟨nm, ⟨Lp, Lq⟩, tp, tq⟩, ha⟩ := get_some (l := seg T t m) (i := i.toNat) (by have := hs.1; omega)
  have hb := bn_at hb0 ha
  dsimp only at hb
  have e : thAt (seg T t m) (i, (wp, wq), sp, sq) = (nm, (Lp, Lq), tp, tq) := by unfold thAt; rw [ha]; rfl
  have hi := hs.1
  rw [e]
  dsimp only
  refine funW tabOk (E := [(44, s_stZ), (81, s_mulZ), (49, s_divZ)]) ⟨ok_stZ, ok_l01MulZ, ok_l01DivZ, trivial⟩ [(1, [(12, 0)]), (4, [(19, 0)])] (k := 4) (fn := Try.f98) rfl rfl rfl rfl rfl rfl ?_
  (repeat' ((try (conv => whnf)); first | (with_reducible first | refine And.intro ?_ ?_ | refine WX.of ?_) | exact zc | ((with_reducible refine VC.mk ?_); exact zw) | ((with_reducible refine VC.mk ?_); exact ⟨smF_ok hgg.1, smF_ok hs.2.1⟩) | ((with_reducible refine VC.mk ?_); exact ⟨smF_ok hb.2.1, smF_ok hs.2.1⟩) | ((with_reducible refine VC.mk ?_); exact hi) | with_reducible refine atL_p (seg_get ha).1 ?_ | (with_reducible first | refine splitT ?_ | refine splitF ?_) | ((with_reducible refine splitM.mk (fun hsm => ?_) (fun hsm => ?_)) <;> (try exact zx)) | ((with_reducible refine splitB.mk (fun h => ?_) (fun h => ?_)) <;> (try simp only [zs, ne_eq] at h) <;> (try simp (disch := omega) only [w64] at h) <;> (try exact zx)) | (with_reducible intro hz; (try exact absurd hz (Nat.succ_ne_zero _)))))
  · have e1 := oC_n h
    refine ⟨?_⟩; simp [bkO, e1, zv, oC]
  · rename_i h0
    obtain ⟨v, ev⟩ := oC_s h0
    have e2 := oC_n h
    refine ⟨?_⟩; simp [bkO, ev, e2, zv, oC]
  · rename_i h0
    obtain ⟨v, ev⟩ := oC_s h0
    exact ⟨⟨ha0, by dsimp only; rw [ev]; exact smF_ok (stO_f ev)⟩⟩
  · rename_i h0 h1
    obtain ⟨v, ev⟩ := oC_s h0
    obtain ⟨u, eu⟩ := oC_s h1
    rw [ev] at h
    have e3 : muO (ap, aq) v = none := oC_n h
    refine ⟨?_⟩
    dsimp only
    rw [ev]
    show SV.tup [_, SV.int _ (oC (muO (ap, aq) v))] = _
    simp [bkO, ev, eu, e3, zv, oC]
  · rename_i h0 h1
    obtain ⟨v, ev⟩ := oC_s h0
    obtain ⟨u, eu⟩ := oC_s h1
    obtain ⟨z, ez⟩ := oC_s h
    have hp := st_pos (g := (tp, tq)) (w := (wp, wq)) hb.2.2 hs.2.1 hs.2.2.1 eu
    refine ⟨?_⟩
    dsimp only
    rw [ez, eu]
    exact ⟨smF_ok (rO_f ez), smF_ok (stO_f eu), by show u.1 ≠ 0; omega⟩
  · rename_i h0 h1
    obtain ⟨v, ev⟩ := oC_s h0
    obtain ⟨u, eu⟩ := oC_s h1
    obtain ⟨z, ez⟩ := oC_s h
    have ez2 := ez
    rw [ev] at ez2
    have ez3 : muO (ap, aq) v = some z := ez2
    have hbk : bkO (gp, gq) (tp, tq) (wp, wq) (ap, aq) = dvO z u := by simp [bkO, ev, eu, ez3]
    refine ⟨?_⟩
    rw [hbk]
    dsimp only
    rw [ez, eu]
    rfl
def s_l07Length : Spec := fun args S => match args, S with
  | [.ptr 0 0 0, .ptr 1 0 0, .agg [.int .i64 fp, .int .i64 fq], .agg [.int .i64 kp, .int .i64 kq]], [.box [.int .i64 up, .int .i64 uq, .sl 2 s n x, .int .i64 vp, .bool vb, .int .i64 gp, .int .i64 gq, .sl 3 t m y] true false, .arr (.prod (.int .i64) (.prod (.prod (.int .i64) (.int .i64)) (.prod (.int .i64) (.int .i64)))) [c] 0 true, .arr (.prod (.int .i64) (.int .i64)) l 2 wr, .arr (.prod .str (.prod (.prod (.int .i64) (.int .i64)) (.prod (.int .i64) (.int .i64)))) T 5 wT] => ⟨(t + m ≤ T.length ∧ m ≤ 1048576) ∧ bnB up uq vp gp gq (seg l s n) (seg T t m) = true ∧ shB m c = true ∧ smF fp fq ∧ smF kp kq, .tup [.agg [.int .i64 (zv (lnT (gp, gq) (seg T t m) c (fp, fq) (kp, kq))).1, .int .i64 (zv (lnT (gp, gq) (seg T t m) c (fp, fq) (kp, kq))).2], .int .i64 (oC (lnT (gp, gq) (seg T t m) c (fp, fq) (kp, kq)))], [.box [.int .i64 up, .int .i64 uq, .sl 2 s n x, .int .i64 vp, .bool vb, .int .i64 gp, .int .i64 gq, .sl 3 t m y] true false, .arr (.prod (.int .i64) (.prod (.prod (.int .i64) (.int .i64)) (.prod (.int .i64) (.int .i64)))) [c] 0 true, .arr (.prod (.int .i64) (.int .i64)) l 2 wr, .arr (.prod .str (.prod (.prod (.int .i64) (.int .i64)) (.prod (.int .i64) (.int .i64)))) T 5 wT]⟩
  | _, _ => noSpec
theorem ok_l07Length : SpecOk Try.prog 68 s_l07Length := by
  intro args S h; unfold s_l07Length at h ⊢; (split at h <;> first | exact False.elim h | skip)
  dsimp only at h ⊢
  rename_i fp fq kp kq up uq s n x vp vb gp gq t m y c l wr T wT
  obtain ⟨h1, hb0, hs0, hf, hk⟩ := h
  refine funW tabOk (E := [(45, s_subZ), (98, s_l07Back)]) ⟨ok_l01SubZ, ok_l07Back, trivial⟩ [] (k := 4) (fn := Try.f68) rfl rfl rfl rfl rfl rfl ?_
  (repeat' ((try (conv => whnf)); first | (with_reducible first | refine And.intro ?_ ?_ | refine WX.of ?_) | exact zc | ((with_reducible refine VC.mk ?_); exact zw) | ((with_reducible refine VC.mk ?_); exact ⟨hk, hf⟩) | (with_reducible first | refine splitT ?_ | refine splitF ?_) | ((with_reducible refine splitM.mk (fun hsm => ?_) (fun hsm => ?_)) <;> (try exact zx)) | ((with_reducible refine splitB.mk (fun h => ?_) (fun h => ?_)) <;> (try simp only [zs, ne_eq] at h) <;> (try simp (disch := omega) only [w64] at h) <;> (try exact zx)) | (with_reducible intro hz; (try exact absurd hz (Nat.succ_ne_zero _)))))
  · have e := oC_n h
    refine ⟨?_⟩; simp [lnT, lnO, e, zv, oC]
  · obtain ⟨v, ev⟩ := oC_s h
    exact ⟨⟨h1, hb0, hs0, by dsimp only; rw [ev]; exact smF_ok (rO_f ev)⟩⟩
  · obtain ⟨v, ev⟩ := oC_s h
    have hln : lnT (gp, gq) (seg T t m) c (fp, fq) (kp, kq) = bkO (gp, gq) (thAt (seg T t m) c).2.2 c.2.1 v := by simp [lnT, lnO, ev]
    refine ⟨?_⟩
    rw [hln]
    dsimp only
    rw [ev]
    rfl
end Go.Proofs.Ytbmejhabgoimeaa.Eng
set_option linter.unusedVariables false
set_option linter.unusedSimpArgs false
namespace Go.Proofs.Ytbmejhabgoimeaa.Eng
open Go Go.RowKit
set_option maxRecDepth 100000
/-- The greatest size of an error, of the first i. -/
def wrN (E : List FrT) : Nat → FrT
  | 0 => (0, 1)
  | i + 1 => moF (wrN E i).1 (wrN E i).2 (((E[i]?).getD (0, 0)).1.natAbs : Int) ((E[i]?).getD (0, 0)).2
theorem wrN_sm {E : List FrT} (h : ∀ (j : Nat) (a : FrT), E[j]? = some a → smF a.1 a.2) : ∀ {i : Nat}, i ≤ E.length → smF (wrN E i).1 (wrN E i).2
  | 0, _ => smF_1 (n := 0) (by omega)
  | i + 1, hi => by
    obtain ⟨a, ha⟩ := get_some (l := E) (i := i) (by omega)
    rw [wrN, ha]
    exact smF_mo (wrN_sm h (by omega)) (smF_abs (h _ _ ha))
def s_worst : Spec := fun args S => match args, S with
  | [.agg [.int .i64 up, .int .i64 uq, .sl 0 s n x]], [.arr (.prod (.int .i64) (.int .i64)) l 2 wr] => ⟨(s + n ≤ l.length ∧ n ≤ 1048576) ∧ ∀ (j : Nat) (a : FrT), (seg l s n)[j]? = some a → smF a.1 a.2, .agg [.int .i64 (wrN (seg l s n) n).1, .int .i64 (wrN (seg l s n) n).2], [.arr (.prod (.int .i64) (.int .i64)) l 2 wr]⟩
  | _, _ => noSpec
theorem ok_worst : SpecOk Try.prog 97 s_worst := by
  intro args S h; unfold s_worst at h ⊢; (split at h <;> first | exact False.elim h | skip)
  dsimp only at h ⊢
  rename_i up uq s n x l wr
  obtain ⟨⟨h1, h2⟩, hE⟩ := h
  have hL := seg_len h1
  refine funW tabOk (E := [(61, s_zero), (57, s_size), (115, s_more)]) ⟨ok_zero, ok_size, ok_greater, trivial⟩ [(5, [(0, 1)])] (k := 1) (fn := Try.f97) rfl rfl rfl rfl rfl rfl ?_
  (repeat' ((try (conv => whnf)); first | (with_reducible first | refine And.intro ?_ ?_ | refine WX.of ?_) | exact zc | ((with_reducible refine VC.mk ?_); exact zw) | (with_reducible first | refine splitT ?_ | refine splitF ?_) | ((with_reducible refine splitM.mk (fun hsm => ?_) (fun hsm => ?_)) <;> (try exact zx)) | ((with_reducible refine splitB.mk (fun h => ?_) (fun h => ?_)) <;> (try simp only [zs, ne_eq] at h) <;> (try simp (disch := omega) only [w64] at h) <;> (try exact zx)) | (with_reducible intro hz; (try exact absurd hz (Nat.succ_ne_zero _)))))
  refine loopW tabOk (E := [(61, s_zero), (57, s_size), (115, s_more)]) ⟨ok_zero, ok_size, ok_greater, trivial⟩ [(5, [(0, 1)])] (σ := Nat) (fun i => [(2, .ptr 2 0 0), (3, .ptr 3 0 0), (8, .sl 0 s n x), (9, .int .i64 n), (10, .int .i64 i)]) (fun i => [.arr (.prod (.int .i64) (.int .i64)) l 2 wr, .gone, .arr (.prod (.int .i64) (.int .i64)) [(0, 0)] 0 true, .arr (.prod (.int .i64) (.int .i64)) [wrN (seg l s n) i] 0 true]) (fun i => n - i) (fun i => i ≤ n) 0 (Nat.zero_le _) ?_ ?_
  · (repeat' ((try (conv => whnf)); first | (with_reducible first | refine And.intro ?_ ?_ | refine WX.of ?_) | exact zc | ((with_reducible refine VC.mk ?_); exact zw) | (with_reducible first | refine splitT ?_ | refine splitF ?_) | ((with_reducible refine splitM.mk (fun hsm => ?_) (fun hsm => ?_)) <;> (try exact zx)) | ((with_reducible refine splitB.mk (fun h => ?_) (fun h => ?_)) <;> (try simp only [zs, ne_eq] at h) <;> (try simp (disch := omega) only [w64] at h) <;> (try exact zx)) | (with_reducible intro hz; (try exact absurd hz (Nat.succ_ne_zero _)))))
  · intro i hi
    have hw := wrN_sm hE (i := i) (by omega)
    by_cases hlt : i < n
    · obtain ⟨⟨p, q⟩, ha⟩ := get_some (l := seg l s n) (i := i) (by omega)
      have hs := hE _ _ ha
      have hst : wrN (seg l s n) (i + 1) = moF (wrN (seg l s n) i).1 (wrN (seg l s n) i).2 (p.natAbs : Int) q := by rw [wrN, ha]; rfl
      (repeat' ((try (conv => whnf)); first | (with_reducible first | refine And.intro ?_ ?_ | refine WX.of ?_) | exact zc | ((with_reducible refine VC.mk ?_); exact zw) | with_reducible refine atL_i ha ?_ | ((with_reducible refine VC.mk ?_); exact hs) | ((with_reducible refine VC.mk ?_); exact ⟨hw, smF_abs hs⟩) | (with_reducible first | refine splitT ?_ | refine splitF ?_) | ((with_reducible refine splitM.mk (fun hsm => ?_) (fun hsm => ?_)) <;> (try exact zx)) | ((with_reducible refine splitB.mk (fun h => ?_) (fun h => ?_)) <;> (try simp only [zs, ne_eq] at h) <;> (try simp (disch := omega) only [w64] at h) <;> (try exact zx)) | (with_reducible intro hz; (try exact absurd hz (Nat.succ_ne_zero _)))))
      refine ⟨i + 1, by omega, hlt, ?_⟩
      (repeat' ((try (conv => whnf)); first | (with_reducible first | refine And.intro ?_ ?_ | refine WX.of ?_) | exact zc | ((with_reducible refine VC.mk ?_); exact zw) | (with_reducible first | refine splitT ?_ | refine splitF ?_) | ((with_reducible refine splitM.mk (fun hsm => ?_) (fun hsm => ?_)) <;> (try exact zx)) | ((with_reducible refine splitB.mk (fun h => ?_) (fun h => ?_)) <;> (try simp only [zs, ne_eq] at h) <;> (try simp (disch := omega) only [w64] at h) <;> (try exact zx)) | (with_reducible intro hz; (try exact absurd hz (Nat.succ_ne_zero _)))))
      all_goals exact ⟨by rw [hst]; rfl⟩
    · obtain rfl : i = n := by omega
      (repeat' ((try (conv => whnf)); first | (with_reducible first | refine And.intro ?_ ?_ | refine WX.of ?_) | exact zc | ((with_reducible refine VC.mk ?_); exact zw) | (with_reducible first | refine splitT ?_ | refine splitF ?_) | ((with_reducible refine splitM.mk (fun hsm => ?_) (fun hsm => ?_)) <;> (try exact zx)) | ((with_reducible refine splitB.mk (fun h => ?_) (fun h => ?_)) <;> (try simp only [zs, ne_eq] at h) <;> (try simp (disch := omega) only [w64] at h) <;> (try exact zx)) | (with_reducible intro hz; (try exact absurd hz (Nat.succ_ne_zero _)))))
def s_l02Worst : Spec := fun args S => match args, S with
  | [.ptr 0 0 0], [.box [.int .i64 up, .int .i64 uq, .sl 1 s n x, .int .i64 vp, .bool vb, .int .i64 gp, .int .i64 gq, .sl 2 t m y] true false, .arr (.prod (.int .i64) (.int .i64)) l 2 wr, .arr (.prod .str (.prod (.prod (.int .i64) (.int .i64)) (.prod (.int .i64) (.int .i64)))) T 5 wT] => ⟨(s + n ≤ l.length ∧ n ≤ 1048576) ∧ ∀ (j : Nat) (a : FrT), (seg l s n)[j]? = some a → smF a.1 a.2, .agg [.int .i64 (wrN (seg l s n) n).1, .int .i64 (wrN (seg l s n) n).2], [.box [.int .i64 up, .int .i64 uq, .sl 1 s n x, .int .i64 vp, .bool vb, .int .i64 gp, .int .i64 gq, .sl 2 t m y] true false, .arr (.prod (.int .i64) (.int .i64)) l 2 wr, .arr (.prod .str (.prod (.prod (.int .i64) (.int .i64)) (.prod (.int .i64) (.int .i64)))) T 5 wT]⟩
  | _, _ => noSpec
def s_l02Size : Spec := fun args S => match args, S with
  | [.agg [.int .i64 p, .int .i64 q]], [] => ⟨smF p q, .agg [.int .i64 (p.natAbs : Int), .int .i64 q], []⟩
  | _, _ => noSpec
theorem ok_l02Size : SpecOk Try.prog 121 s_l02Size := by
  intro args S h; unfold s_l02Size at h ⊢; (split at h <;> first | exact False.elim h | skip)
  dsimp only at h ⊢
  rename_i p q
  have hs := h
  unfold smF at h
  refine funW tabOk (E := [(83, s_neg)]) ⟨ok_l01Neg, trivial⟩ [] (k := 0) (fn := Try.f121) rfl rfl rfl rfl rfl rfl ?_
  (repeat' ((try (conv => whnf)); first | (with_reducible first | refine And.intro ?_ ?_ | refine WX.of ?_) | exact zc | ((with_reducible refine VC.mk ?_); exact zw) | ((with_reducible refine VC.mk ?_); exact hs) | (with_reducible first | refine splitT ?_ | refine splitF ?_) | ((with_reducible refine splitM.mk (fun hsm => ?_) (fun hsm => ?_)) <;> (try exact zx)) | ((with_reducible refine splitB.mk (fun h => ?_) (fun h => ?_)) <;> (try simp only [zs, ne_eq] at h) <;> (try simp (disch := omega) only [w64] at h) <;> (try exact zx)) | (with_reducible intro hz; (try exact absurd hz (Nat.succ_ne_zero _)))))
  · exact ⟨by rw [show -p = (p.natAbs : Int) by omega]⟩
  · exact ⟨by rw [show (p.natAbs : Int) = p by omega]⟩
theorem ok_l02Worst : SpecOk Try.prog 116 s_l02Worst := by
  intro args S h; unfold s_l02Worst at h ⊢; (split at h <;> first | exact False.elim h | skip)
  dsimp only at h ⊢
  rename_i up uq s n x vp vb gp gq t m y l wr T wT
  obtain ⟨⟨h1, h2⟩, hE⟩ := h
  have hL := seg_len h1
  refine funW tabOk (E := [(46, s_num), (121, s_l02Size), (120, s_more)]) ⟨ok_l01Whole, ok_l02Size, ok_l01More, trivial⟩ [(5, [(0, 1)])] (k := 3) (fn := Try.f116) rfl rfl rfl rfl rfl rfl ?_
  (repeat' ((try (conv => whnf)); first | (with_reducible first | refine And.intro ?_ ?_ | refine WX.of ?_) | exact zc | ((with_reducible refine VC.mk ?_); exact zw) | (with_reducible first | refine splitT ?_ | refine splitF ?_) | ((with_reducible refine splitM.mk (fun hsm => ?_) (fun hsm => ?_)) <;> (try exact zx)) | ((with_reducible refine splitB.mk (fun h => ?_) (fun h => ?_)) <;> (try simp only [zs, ne_eq] at h) <;> (try simp (disch := omega) only [w64] at h) <;> (try exact zx)) | (with_reducible intro hz; (try exact absurd hz (Nat.succ_ne_zero _)))))
  refine loopW tabOk (E := [(46, s_num), (121, s_l02Size), (120, s_more)]) ⟨ok_l01Whole, ok_l02Size, ok_l01More, trivial⟩ [(5, [(0, 1)])] (σ := Nat) (fun i => [(0, .ptr 0 0 0), (2, .ptr 3 0 0), (3, .ptr 4 0 0), (4, .int .i64 i)]) (fun i => [.box [.int .i64 up, .int .i64 uq, .sl 1 s n x, .int .i64 vp, .bool vb, .int .i64 gp, .int .i64 gq, .sl 2 t m y] true false, .arr (.prod (.int .i64) (.int .i64)) l 2 wr, .arr (.prod .str (.prod (.prod (.int .i64) (.int .i64)) (.prod (.int .i64) (.int .i64)))) T 5 wT] ++ [.arr (.prod (.int .i64) (.int .i64)) [(0, 0)] 0 true, .arr (.prod (.int .i64) (.int .i64)) [wrN (seg l s n) i] 0 true]) (fun i => n - i) (fun i => i ≤ n) 0 (Nat.zero_le _) ?_ ?_
  · (repeat' ((try (conv => whnf)); first | (with_reducible first | refine And.intro ?_ ?_ | refine WX.of ?_) | exact zc | ((with_reducible refine VC.mk ?_); exact zw) | (with_reducible first | refine splitT ?_ | refine splitF ?_) | ((with_reducible refine splitM.mk (fun hsm => ?_) (fun hsm => ?_)) <;> (try exact zx)) | ((with_reducible refine splitB.mk (fun h => ?_) (fun h => ?_)) <;> (try simp only [zs, ne_eq] at h) <;> (try simp (disch := omega) only [w64] at h) <;> (try exact zx)) | (with_reducible intro hz; (try exact absurd hz (Nat.succ_ne_zero _)))))
  · intro i hi
    have hw := wrN_sm hE (i := i) (by omega)
    by_cases hlt : i < n
    · obtain ⟨⟨p, q⟩, ha⟩ := get_some (l := seg l s n) (i := i) (by omega)
      have hs := hE _ _ ha
      have hst : wrN (seg l s n) (i + 1) = moF (wrN (seg l s n) i).1 (wrN (seg l s n) i).2 (p.natAbs : Int) q := by rw [wrN, ha]; rfl
      (repeat' ((try (conv => whnf)); first | (with_reducible first | refine And.intro ?_ ?_ | refine WX.of ?_) | exact zc | ((with_reducible refine VC.mk ?_); exact zw) | with_reducible refine atL_i ha ?_ | ((with_reducible refine VC.mk ?_); exact hs) | ((with_reducible refine VC.mk ?_); exact ⟨hw, smF_abs hs⟩) | (with_reducible first | refine splitT ?_ | refine splitF ?_) | ((with_reducible refine splitM.mk (fun hsm => ?_) (fun hsm => ?_)) <;> (try exact zx)) | ((with_reducible refine splitB.mk (fun h => ?_) (fun h => ?_)) <;> (try simp only [zs, ne_eq] at h) <;> (try simp (disch := omega) only [w64] at h) <;> (try exact zx)) | (with_reducible intro hz; (try exact absurd hz (Nat.succ_ne_zero _)))))
      refine ⟨i + 1, by omega, hlt, ?_⟩
      (repeat' ((try (conv => whnf)); first | (with_reducible first | refine And.intro ?_ ?_ | refine WX.of ?_) | exact zc | ((with_reducible refine VC.mk ?_); exact zw) | (with_reducible first | refine splitT ?_ | refine splitF ?_) | ((with_reducible refine splitM.mk (fun hsm => ?_) (fun hsm => ?_)) <;> (try exact zx)) | ((with_reducible refine splitB.mk (fun h => ?_) (fun h => ?_)) <;> (try simp only [zs, ne_eq] at h) <;> (try simp (disch := omega) only [w64] at h) <;> (try exact zx)) | (with_reducible intro hz; (try exact absurd hz (Nat.succ_ne_zero _)))))
      all_goals exact ⟨by rw [hst]; rfl⟩
    · obtain rfl : i = n := by omega
      (repeat' ((try (conv => whnf)); first | (with_reducible first | refine And.intro ?_ ?_ | refine WX.of ?_) | exact zc | ((with_reducible refine VC.mk ?_); exact zw) | (with_reducible first | refine splitT ?_ | refine splitF ?_) | ((with_reducible refine splitM.mk (fun hsm => ?_) (fun hsm => ?_)) <;> (try exact zx)) | ((with_reducible refine splitB.mk (fun h => ?_) (fun h => ?_)) <;> (try simp only [zs, ne_eq] at h) <;> (try simp (disch := omega) only [w64] at h) <;> (try exact zx)) | (with_reducible intro hz; (try exact absurd hz (Nat.succ_ne_zero _)))))
/-- The doubt of a reading. -/
def dbO (u : FrT) (vp : Int) (w : FrT) : Option FrT := (dvO u (2 * vp, 1)).bind fun a => (muO (2, 1) w).bind fun b => adO a b
def dbV (u : FrT) (vp : Int) (w : FrT) : FrT := tv (adO (tv (dvO u (2 * vp, 1))) (tv (muO (2, 1) w)))
theorem db_e (u : FrT) (vp : Int) (w : FrT) : (!(dvO u (2 * vp, 1)).isSome || !(muO (2, 1) w).isSome || !(adO (tv (dvO u (2 * vp, 1))) (tv (muO (2, 1) w))).isSome) = !(dbO u vp w).isSome ∧ ∀ v, dbO u vp w = some v → dbV u vp w = v := by
  unfold dbV dbO
  cases h1 : dvO u (2 * vp, 1) with
  | none => simp
  | some a =>
    simp only [Option.bind_some]
    cases h2 : muO (2, 1) w with
    | none => simp
    | some b =>
      simp only [Option.bind_some, tv, Option.getD_some, Option.isSome_some, Bool.not_true, Bool.false_or, true_and]
      intro v h4; rw [h4]; rfl
def s_doubt : Spec := fun args S => match args, S with
  | [.ptr b 0 0, .agg [.int .i64 up, .int .i64 uq, .sl 1 s n x], .agg [.int .i64 vp, .bool vb]], [.arr .bool [bad] 0 true, .arr (.prod (.int .i64) (.int .i64)) l 2 wr] => ⟨b = 0 ∧ ((s + n ≤ l.length ∧ n ≤ 1048576) ∧ ∀ (j : Nat) (a : FrT), (seg l s n)[j]? = some a → smF a.1 a.2) ∧ smF up uq ∧ 2 ≤ vp ∧ vp ≤ 40, .agg [.int .i64 (dbV (up, uq) vp (wrN (seg l s n) n)).1, .int .i64 (dbV (up, uq) vp (wrN (seg l s n) n)).2], [.arr .bool [bad || !(dbO (up, uq) vp (wrN (seg l s n) n)).isSome] 0 true, .arr (.prod (.int .i64) (.int .i64)) l 2 wr]⟩
  | _, _ => noSpec
theorem ok_doubt : SpecOk Try.prog 66 s_doubt := by
  intro args S h; unfold s_doubt at h ⊢; (split at h <;> first | exact False.elim h | skip)
  dsimp only at h ⊢
  rename_i b up uq s n x vp vb bad l wr
  obtain ⟨rfl, hE, hu, hv⟩ := h
  have hL := seg_len hE.1.1
  have hw := wrN_sm hE.2 (i := n) (by omega)
  have hd := smF_dv (up, uq) (2 * vp, 1)
  have hm := smF_mu (2, 1) (wrN (seg l s n) n)
  have hdb := (db_e (up, uq) vp (wrN (seg l s n) n)).1
  refine funW tabOk (E := [(26, s_num), (29, s_divO), (97, s_worst), (54, s_mulO), (53, s_addO)]) ⟨ok_num, ok_divO, ok_worst, ok_mulO, ok_addO, trivial⟩ [(1, [(3, 1), (11, 0), (11, 1), (11, 2)])] (k := 2) (fn := Try.f66) rfl rfl rfl rfl rfl rfl ?_
  (repeat' ((try (conv => whnf)); first | (with_reducible first | refine And.intro ?_ ?_ | refine WX.of ?_) | exact zc | ((with_reducible refine VC.mk ?_); exact zw) | ((with_reducible refine VC.mk ?_); exact hE) | ((with_reducible refine VC.mk ?_); exact ⟨rfl, hu, (by rw [w64 (by omega)]; exact smF_1 (by omega))⟩) | ((with_reducible refine VC.mk ?_); exact ⟨rfl, smF_1 (by omega), hw⟩) | ((with_reducible refine VC.mk ?_); exact ⟨rfl, (by rw [w64 (by omega)]; exact hd), hm⟩) | (with_reducible first | refine splitT ?_ | refine splitF ?_) | ((with_reducible refine splitM.mk (fun hsm => ?_) (fun hsm => ?_)) <;> (try exact zx)) | ((with_reducible refine splitB.mk (fun h => ?_) (fun h => ?_)) <;> (try simp only [zs, ne_eq] at h) <;> (try simp (disch := omega) only [w64] at h) <;> (try exact zx)) | (with_reducible intro hz; (try exact absurd hz (Nat.succ_ne_zero _)))))
  · refine ⟨?_⟩
    dsimp only
    rw [w64 (by omega)]
    rfl
  · refine ⟨?_⟩
    dsimp only
    rw [w64 (by omega)]
    simp only [pr_eta]
    rw [← hdb]
    (try simp only [Bool.or_assoc])
theorem dv_f {a b v : FrT} (h : dvO a b = some v) : fOk v.1 v.2 = true := by
  unfold dvO at h
  split at h
  · simp at h
  · exact rO_f h
theorem db_1 {u : FrT} {vp : Int} {w : FrT} (h : ¬ oC (dvO u (2 * vp, 1)) = 0) : dbO u vp w = none := by unfold dbO; rw [oC_n h]; rfl
theorem db_2 {u : FrT} {vp : Int} {w : FrT} (h : oC (dvO u (2 * vp, 1)) = 0) (h2 : ¬ oC (muO (2, 1) w) = 0) : dbO u vp w = none := by
  obtain ⟨v, ev⟩ := oC_s h
  unfold dbO; rw [ev, oC_n h2]; rfl
theorem db_3 {u : FrT} {vp : Int} {w : FrT} (h : oC (dvO u (2 * vp, 1)) = 0) (h2 : oC (muO (2, 1) w) = 0) : dbO u vp w = adO (zv (dvO u (2 * vp, 1))) (zv (muO (2, 1) w)) := by
  obtain ⟨v, ev⟩ := oC_s h
  obtain ⟨a, ea⟩ := oC_s h2
  unfold dbO; rw [ev, ea]; rfl
def s_l02Open : Spec := fun args S => match args, S with
  | [.ptr 0 0 0, .ptr 0 0 3], [.box [.int .i64 up, .int .i64 uq, .sl 1 s n x, .int .i64 vp, .bool vb, .int .i64 gp, .int .i64 gq, .sl 2 t m y] true false, .arr (.prod (.int .i64) (.int .i64)) l 2 wr, .arr (.prod .str (.prod (.prod (.int .i64) (.int .i64)) (.prod (.int .i64) (.int .i64)))) T 5 wT] => ⟨((s + n ≤ l.length ∧ n ≤ 1048576) ∧ ∀ (j : Nat) (a : FrT), (seg l s n)[j]? = some a → smF a.1 a.2) ∧ smF up uq ∧ 2 ≤ vp ∧ vp ≤ 40, .tup [.agg [.int .i64 (zv (dbO (up, uq) vp (wrN (seg l s n) n))).1, .int .i64 (zv (dbO (up, uq) vp (wrN (seg l s n) n))).2], .int .i64 (oC (dbO (up, uq) vp (wrN (seg l s n) n)))], [.box [.int .i64 up, .int .i64 uq, .sl 1 s n x, .int .i64 vp, .bool vb, .int .i64 gp, .int .i64 gq, .sl 2 t m y] true false, .arr (.prod (.int .i64) (.int .i64)) l 2 wr, .arr (.prod .str (.prod (.prod (.int .i64) (.int .i64)) (.prod (.int .i64) (.int .i64)))) T 5 wT]⟩
  | _, _ => noSpec
theorem ok_l02Open : SpecOk Try.prog 99 s_l02Open := by
  intro args S h; unfold s_l02Open at h ⊢; (split at h <;> first | exact False.elim h | skip)
  dsimp only at h ⊢
  rename_i up uq s n x vp vb gp gq t m y l wr T wT
  obtain ⟨hE, hu, hv⟩ := h
  have hL := seg_len hE.1.1
  have hw := wrN_sm hE.2 (i := n) (by omega)
  refine funW tabOk (E := [(46, s_num), (49, s_divZ), (116, s_l02Worst), (81, s_mulZ), (82, s_addZ)]) ⟨ok_l01Whole, ok_l01DivZ, ok_l02Worst, ok_l01MulZ, ok_l01AddZ, trivial⟩ [(1, [(3, 1), (14, 0), (14, 1)])] (k := 3) (fn := Try.f99) rfl rfl rfl rfl rfl rfl ?_
  (repeat' ((try (conv => whnf)); first | (with_reducible first | refine And.intro ?_ ?_ | refine WX.of ?_) | exact zc | ((with_reducible refine VC.mk ?_); exact zw) | ((with_reducible refine VC.mk ?_); exact hE) | ((with_reducible refine VC.mk ?_); exact ⟨hu, (by rw [w64 (by omega)]; exact smF_1 (by omega)), (by rw [w64 (by omega)]; show 2 * vp ≠ 0; omega)⟩) | ((with_reducible refine VC.mk ?_); exact ⟨smF_1 (by omega), hw⟩) | (with_reducible first | refine splitT ?_ | refine splitF ?_) | ((with_reducible refine splitM.mk (fun hsm => ?_) (fun hsm => ?_)) <;> (try exact zx)) | ((with_reducible refine splitB.mk (fun h => ?_) (fun h => ?_)) <;> (try simp only [zs, ne_eq] at h) <;> (try simp (disch := omega) only [w64] at h) <;> (try exact zx)) | (with_reducible intro hz; (try exact absurd hz (Nat.succ_ne_zero _)))))
  · refine ⟨?_⟩
    rw [w64 (by omega), db_1 h, oC_3 h]
    rfl
  · rename_i h0
    refine ⟨?_⟩
    rw [db_2 h0 h, oC_3 h]
    rfl
  · rename_i h0
    obtain ⟨v, ev⟩ := oC_s h0
    obtain ⟨a, ea⟩ := oC_s h
    refine ⟨?_⟩
    dsimp only
    rw [w64 (by omega), ev, ea]
    exact ⟨smF_ok (dv_f ev), smF_ok (rO_f ea)⟩
  · rename_i h0
    refine ⟨?_⟩
    dsimp only
    rw [w64 (by omega), db_3 h0 h]
/-- Two fractions that may fail. -/
def z2 (o : Option (FrT × FrT)) : FrT × FrT := o.getD ((0, 0), (0, 0))
def oS (o : Option (FrT × FrT)) : Int := if o.isSome = true then 0 else 3
def arO (a b : FrT) : Option (FrT × FrT) := (sbO a b).bind fun l => (adO a b).bind fun h => some (l, h)
theorem ar_f {a b : FrT} {v : FrT × FrT} (h : arO a b = some v) : fOk v.1.1 v.1.2 = true ∧ fOk v.2.1 v.2.2 = true := by
  unfold arO at h
  cases h1 : sbO a b with
  | none => rw [h1] at h; simp at h
  | some l =>
    cases h2 : adO a b with
    | none => rw [h1, h2] at h; simp at h
    | some k =>
      rw [h1, h2] at h
      simp only [Option.bind_some, Option.some.injEq] at h
      subst h
      exact ⟨rO_f h1, rO_f h2⟩
def s_both : Spec := fun args S => match args, S with
  | [.agg [.int .i64 p, .int .i64 q], .int .i64 one, .agg [.int .i64 p', .int .i64 q'], .int .i64 two], [] => ⟨True, .tup [.agg [.int .i64 (if one = 0 ∧ two = 0 then p else 0), .int .i64 (if one = 0 ∧ two = 0 then q else 0), .int .i64 (if one = 0 ∧ two = 0 then p' else 0), .int .i64 (if one = 0 ∧ two = 0 then q' else 0)], .int .i64 (if one = 0 then two else one)], []⟩
  | _, _ => noSpec
theorem ok_l01Both : SpecOk Try.prog 101 s_both := by
  intro args S h; unfold s_both at h ⊢; (split at h <;> first | exact False.elim h | skip)
  dsimp only at h ⊢
  rename_i p q one p' q' two
  refine funW tabOk (E := []) trivial [] (k := 0) (fn := Try.f101) rfl rfl rfl rfl rfl rfl ?_
  (repeat' ((try (conv => whnf)); first | (with_reducible first | refine And.intro ?_ ?_ | refine WX.of ?_) | exact zc | ((with_reducible refine VC.mk ?_); exact zw) | (with_reducible first | refine splitT ?_ | refine splitF ?_) | ((with_reducible refine splitM.mk (fun hsm => ?_) (fun hsm => ?_)) <;> (try exact zx)) | ((with_reducible refine splitB.mk (fun h => ?_) (fun h => ?_)) <;> (try simp only [zs, ne_eq] at h) <;> (try simp (disch := omega) only [w64] at h) <;> (try exact zx)) | (with_reducible intro hz; (try exact absurd hz (Nat.succ_ne_zero _)))))
  all_goals (refine ⟨?_⟩; simp_all)
def s_around : Spec := fun args S => match args, S with
  | [.agg [.int .i64 p, .int .i64 q], .agg [.int .i64 p', .int .i64 q']], [] => ⟨smF p q ∧ smF p' q', .tup [.agg [.int .i64 (z2 (arO (p, q) (p', q'))).1.1, .int .i64 (z2 (arO (p, q) (p', q'))).1.2, .int .i64 (z2 (arO (p, q) (p', q'))).2.1, .int .i64 (z2 (arO (p, q) (p', q'))).2.2], .int .i64 (oS (arO (p, q) (p', q')))], []⟩
  | _, _ => noSpec
theorem ok_l01Around : SpecOk Try.prog 100 s_around := by
  intro args S h; unfold s_around at h ⊢; (split at h <;> first | exact False.elim h | skip)
  dsimp only at h ⊢
  rename_i p q p' q'
  have hq := h
  refine funW tabOk (E := [(45, s_subZ), (82, s_addZ), (101, s_both)]) ⟨ok_l01SubZ, ok_l01AddZ, ok_l01Both, trivial⟩ [] (k := 0) (fn := Try.f100) rfl rfl rfl rfl rfl rfl ?_
  (repeat' ((try (conv => whnf)); first | (with_reducible first | refine And.intro ?_ ?_ | refine WX.of ?_) | exact zc | ((with_reducible refine VC.mk ?_); exact zw) | ((with_reducible refine VC.mk ?_); exact hq) | (with_reducible first | refine splitT ?_ | refine splitF ?_) | ((with_reducible refine splitM.mk (fun hsm => ?_) (fun hsm => ?_)) <;> (try exact zx)) | ((with_reducible refine splitB.mk (fun h => ?_) (fun h => ?_)) <;> (try simp only [zs, ne_eq] at h) <;> (try simp (disch := omega) only [w64] at h) <;> (try exact zx)) | (with_reducible intro hz; (try exact absurd hz (Nat.succ_ne_zero _)))))
  all_goals (refine ⟨?_⟩; cases h1 : sbO (p, q) (p', q') <;> cases h2 : adO (p, q) (p', q') <;> simp [arO, oC, oS, zv, z2, h1, h2])
def s_span : Spec := fun args S => match args, S with
  | [.ptr b 0 0, .agg [.int .i64 p, .int .i64 q, .int .i64 p', .int .i64 q']], [.arr .bool [bad] 0 true] => ⟨b = 0, .tup [.agg [.int .i64 (if bad = true then 0 else p), .int .i64 (if bad = true then 0 else q), .int .i64 (if bad = true then 0 else p'), .int .i64 (if bad = true then 0 else q')], .int .i64 (if bad = true then 3 else 0)], [.arr .bool [bad] 0 true]⟩
  | _, _ => noSpec
theorem ok_span : SpecOk Try.prog 67 s_span := by
  intro args S h; unfold s_span at h ⊢; (split at h <;> first | exact False.elim h | skip)
  dsimp only at h ⊢
  rename_i b p q p' q' bad
  obtain rfl := h
  refine funW tabOk (E := []) trivial [] (k := 1) (fn := Try.f67) rfl rfl rfl rfl rfl rfl ?_
  (repeat' ((try (conv => whnf)); first | (with_reducible first | refine And.intro ?_ ?_ | refine WX.of ?_) | exact zc | ((with_reducible refine VC.mk ?_); exact zw) | (with_reducible first | refine splitT ?_ | refine splitF ?_) | ((with_reducible refine splitM.mk (fun hsm => ?_) (fun hsm => ?_)) <;> (try exact zx)) | ((with_reducible refine splitB.mk (fun h => ?_) (fun h => ?_)) <;> (try simp only [zs, ne_eq] at h) <;> (try simp (disch := omega) only [w64] at h) <;> (try exact zx)) | (with_reducible intro hz; (try exact absurd hz (Nat.succ_ne_zero _)))))
  all_goals (refine ⟨?_⟩; simp_all)
/-- The span of a length. -/
def opO (d : Option FrT) (e : Option FrT) (g th w : FrT) : Option (FrT × FrT) := d.bind fun d => e.bind fun e => (muO (2, 1) e).bind fun b => (arO d b).bind fun a => (bkO g th w a.1).bind fun l => (bkO g th w a.2).bind fun h => some (l, h)
def opT (u : FrT) (E : List FrT) (vp : Int) (g : FrT) (T : List ThT) (c : ShT) (f k : FrT) : Option (FrT × FrT) := opO (sbO k f) (dbO u vp (wrN E E.length)) g (thAt T c).2.2 c.2.1
def opV (d e : FrT) (g th w : FrT) : FrT × FrT := (bkV g th w (tv (sbO d (tv (muO (2, 1) e)))), bkV g th w (tv (adO d (tv (muO (2, 1) e)))))
theorem op_e (d e : Option FrT) (dv ev g th w : FrT) (hd : ∀ v, d = some v → dv = v) (he : ∀ v, e = some v → ev = v) : (!e.isSome || !(muO (2, 1) ev).isSome || !d.isSome || !(sbO dv (tv (muO (2, 1) ev))).isSome || bkB g th w (tv (sbO dv (tv (muO (2, 1) ev)))) || !(adO dv (tv (muO (2, 1) ev))).isSome || bkB g th w (tv (adO dv (tv (muO (2, 1) ev))))) = !(opO d e g th w).isSome ∧ ∀ v, opO d e g th w = some v → opV dv ev g th w = v := by
  unfold opO opV
  cases d with
  | none => cases e <;> simp
  | some d =>
    obtain rfl := hd d rfl
    cases e with
    | none => simp
    | some e =>
      obtain rfl := he e rfl
      simp only [Option.bind_some]
      cases h1 : muO (2, 1) ev with
      | none => simp
      | some b =>
        simp only [Option.bind_some, tv, Option.getD_some, Option.isSome_some, Bool.not_true, Bool.false_or]
        unfold arO
        cases h2 : sbO dv b with
        | none => simp
        | some lo =>
          cases h3 : adO dv b with
          | none => simp
          | some hi =>
            have b1 := bk_e g th w lo
            have b2 := bk_e g th w hi
            simp only [Option.bind_some, Option.getD_some, Option.isSome_some, Bool.not_true, Bool.false_or, b1.1, b2.1, Bool.or_false]
            cases h4 : bkO g th w lo with
            | none => simp
            | some x =>
              cases h5 : bkO g th w hi with
              | none => simp
              | some y => 
                simp only [Option.bind_some, Option.isSome_some, Bool.not_true, Bool.or_false, true_and, Option.some.injEq]
                intro v hv
                rw [b1.2 x h4, b2.2 y h5]; exact hv
theorem sc_el {up uq : Int} {E : List (Int × Int)} (h : scB up uq E = true) : ∀ (j : Nat) (a : FrT), E[j]? = some a → smF a.1 a.2 := fun j a ha => by
  unfold scB at h
  simp only [Bool.and_eq_true] at h
  have := allI_at h.2 ha
  unfold elB at this
  simp only [Bool.and_eq_true] at this
  exact smF_ok this.1.1
end Go.Proofs.Ytbmejhabgoimeaa.Eng
