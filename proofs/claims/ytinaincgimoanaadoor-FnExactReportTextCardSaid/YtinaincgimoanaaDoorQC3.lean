/- Lemmas for the proof, no conditions of their own. -/
import Derived.Test.YtinaincgimoanaaDoorQC2
import Derived.Test.YtinaincgimoanaaDoorProg
import Derived.KernelRfl
import Derived.Shelf.Strconv.Itoa4
import Derived.Shelf.Strings.OnBuilder
import Derived.Ground.NamesProg
import Derived.Deep.RegionWith
set_option linter.unusedVariables false
set_option linter.unusedSimpArgs false
set_option maxRecDepth 100000
namespace Go.Proofs.YtinaincgimoanaaDoor.Eng
open Go Go.RowKit
def t_1 : TyD := { und := TypeDesc.func #[] #[] false, size := 1, bytes := 8, zero := [Value.nilFunc], fl := false }
theorem i_1 : TabE Tryd.prog (1, t_1, false) := ⟨by kernel_rfl, fun h => by simp at h⟩
def t_2 : TyD := { und := TypeDesc.int IntKind.i64, size := 1, bytes := 8, zero := [Value.int IntKind.i64 0], fl := true }
theorem i_2 : TabE Tryd.prog (2, t_2, false) := ⟨by kernel_rfl, fun h => by simp at h⟩
def t_3 : TyD := { und := TypeDesc.int IntKind.i64, size := 1, bytes := 8, zero := [Value.int IntKind.i64 0], fl := true }
theorem i_3 : TabE Tryd.prog (3, t_3, false) := ⟨by kernel_rfl, fun h => by simp at h⟩
def t_4 : TyD := { und := TypeDesc.bool, size := 1, bytes := 1, zero := [Value.bool false], fl := true }
theorem i_4 : TabE Tryd.prog (4, t_4, false) := ⟨by kernel_rfl, fun h => by simp at h⟩
def t_5 : TyD := { und := TypeDesc.int IntKind.u8, size := 1, bytes := 1, zero := [Value.int IntKind.u8 0], fl := true }
theorem i_5 : TabE Tryd.prog (5, t_5, false) := ⟨by kernel_rfl, fun h => by simp at h⟩
def t_6 : TyD := { und := TypeDesc.int IntKind.u8, size := 1, bytes := 1, zero := [Value.int IntKind.u8 0], fl := true }
theorem i_6 : TabE Tryd.prog (6, t_6, false) := ⟨by kernel_rfl, fun h => by simp at h⟩
def t_7 : TyD := { und := TypeDesc.struct #[{ name := "x", type := 2, offset := 0, embedded := false, tag := "", pkgPath := "runtime", byteOffset := 0 }, { name := "y", type := 3, offset := 1, embedded := false, tag := "", pkgPath := "runtime", byteOffset := 8 }, { name := "signed", type := 4, offset := 2, embedded := false, tag := "", pkgPath := "runtime", byteOffset := 16 }, { name := "code", type := 6, offset := 3, embedded := false, tag := "", pkgPath := "runtime", byteOffset := 17 }], size := 4, bytes := 24, zero := [Value.int IntKind.i64 0, Value.int IntKind.i64 0, Value.bool false, Value.int IntKind.u8 0], fl := true }
theorem i_7 : TabE Tryd.prog (7, t_7, true) := ⟨by kernel_rfl, fun _ => by kernel_rfl⟩
def t_8 : TyD := { und := TypeDesc.struct #[{ name := "x", type := 2, offset := 0, embedded := false, tag := "", pkgPath := "runtime", byteOffset := 0 }, { name := "y", type := 3, offset := 1, embedded := false, tag := "", pkgPath := "runtime", byteOffset := 8 }, { name := "signed", type := 4, offset := 2, embedded := false, tag := "", pkgPath := "runtime", byteOffset := 16 }, { name := "code", type := 6, offset := 3, embedded := false, tag := "", pkgPath := "runtime", byteOffset := 17 }], size := 4, bytes := 24, zero := [Value.int IntKind.i64 0, Value.int IntKind.i64 0, Value.bool false, Value.int IntKind.u8 0], fl := true }
theorem i_8 : TabE Tryd.prog (8, t_8, true) := ⟨by kernel_rfl, fun _ => by kernel_rfl⟩
def t_9 : TyD := { und := TypeDesc.string, size := 1, bytes := 16, zero := [Value.string ⟨#[]⟩], fl := true }
theorem i_9 : TabE Tryd.prog (9, t_9, false) := ⟨by kernel_rfl, fun h => by simp at h⟩
def t_10 : TyD := { und := TypeDesc.string, size := 1, bytes := 16, zero := [Value.string ⟨#[]⟩], fl := true }
theorem i_10 : TabE Tryd.prog (10, t_10, false) := ⟨by kernel_rfl, fun h => by simp at h⟩
def t_11 : TyD := { und := TypeDesc.string, size := 1, bytes := 16, zero := [Value.string ⟨#[]⟩], fl := true }
theorem i_11 : TabE Tryd.prog (11, t_11, false) := ⟨by kernel_rfl, fun h => by simp at h⟩
def t_12 : TyD := { und := TypeDesc.int IntKind.u64, size := 1, bytes := 8, zero := [Value.int IntKind.u64 0], fl := true }
theorem i_12 : TabE Tryd.prog (12, t_12, false) := ⟨by kernel_rfl, fun h => by simp at h⟩
def t_13 : TyD := { und := TypeDesc.struct #[{ name := "msg", type := 9, offset := 0, embedded := false, tag := "", pkgPath := "runtime", byteOffset := 0 }, { name := "addr", type := 12, offset := 1, embedded := false, tag := "", pkgPath := "runtime", byteOffset := 16 }], size := 2, bytes := 24, zero := [Value.string ⟨#[]⟩, Value.int IntKind.u64 0], fl := true }
theorem i_13 : TabE Tryd.prog (13, t_13, false) := ⟨by kernel_rfl, fun h => by simp at h⟩
def t_14 : TyD := { und := TypeDesc.struct #[{ name := "msg", type := 9, offset := 0, embedded := false, tag := "", pkgPath := "runtime", byteOffset := 0 }, { name := "addr", type := 12, offset := 1, embedded := false, tag := "", pkgPath := "runtime", byteOffset := 16 }], size := 2, bytes := 24, zero := [Value.string ⟨#[]⟩, Value.int IntKind.u64 0], fl := true }
theorem i_14 : TabE Tryd.prog (14, t_14, false) := ⟨by kernel_rfl, fun h => by simp at h⟩
def t_15 : TyD := { und := TypeDesc.pointer 271, size := 1, bytes := 8, zero := [Value.pointer none], fl := false }
theorem i_15 : TabE Tryd.prog (15, t_15, false) := ⟨by kernel_rfl, fun h => by simp at h⟩
def t_16 : TyD := { und := TypeDesc.pointer 274, size := 1, bytes := 8, zero := [Value.pointer none], fl := false }
theorem i_16 : TabE Tryd.prog (16, t_16, false) := ⟨by kernel_rfl, fun h => by simp at h⟩
def t_17 : TyD := { und := TypeDesc.pointer 282, size := 1, bytes := 8, zero := [Value.pointer none], fl := false }
theorem i_17 : TabE Tryd.prog (17, t_17, false) := ⟨by kernel_rfl, fun h => by simp at h⟩
def t_18 : TyD := { und := TypeDesc.struct #[{ name := "typ", type := 17, offset := 0, embedded := false, tag := "", pkgPath := "internal/runtime/maps", byteOffset := 0 }], size := 1, bytes := 8, zero := [Value.pointer none], fl := false }
theorem i_18 : TabE Tryd.prog (18, t_18, false) := ⟨by kernel_rfl, fun h => by simp at h⟩
def t_19 : TyD := { und := TypeDesc.struct #[{ name := "typ", type := 17, offset := 0, embedded := false, tag := "", pkgPath := "internal/runtime/maps", byteOffset := 0 }], size := 1, bytes := 8, zero := [Value.pointer none], fl := false }
theorem i_19 : TabE Tryd.prog (19, t_19, false) := ⟨by kernel_rfl, fun h => by simp at h⟩
def t_21 : TyD := { und := TypeDesc.int IntKind.i32, size := 1, bytes := 4, zero := [Value.int IntKind.i32 0], fl := true }
theorem i_21 : TabE Tryd.prog (21, t_21, false) := ⟨by kernel_rfl, fun h => by simp at h⟩
def t_22 : TyD := { und := TypeDesc.slice 84, size := 1, bytes := 24, zero := [Value.slice none 0 0], fl := false }
theorem i_22 : TabE Tryd.prog (22, t_22, false) := ⟨by kernel_rfl, fun h => by simp at h⟩
def t_23 : TyD := { und := TypeDesc.func #[22, 3] #[3] false, size := 1, bytes := 8, zero := [Value.nilFunc], fl := false }
theorem i_23 : TabE Tryd.prog (23, t_23, false) := ⟨by kernel_rfl, fun h => by simp at h⟩
def t_24 : TyD := { und := TypeDesc.func #[25] #[9] false, size := 1, bytes := 8, zero := [Value.nilFunc], fl := false }
theorem i_24 : TabE Tryd.prog (24, t_24, false) := ⟨by kernel_rfl, fun h => by simp at h⟩
def t_25 : TyD := { und := TypeDesc.slice 86, size := 1, bytes := 24, zero := [Value.slice none 0 0], fl := false }
theorem i_25 : TabE Tryd.prog (25, t_25, false) := ⟨by kernel_rfl, fun h => by simp at h⟩
def t_26 : TyD := { und := TypeDesc.func #[22] #[25] false, size := 1, bytes := 8, zero := [Value.nilFunc], fl := false }
theorem i_26 : TabE Tryd.prog (26, t_26, false) := ⟨by kernel_rfl, fun h => by simp at h⟩
def t_27 : TyD := { und := TypeDesc.func #[25, 25] #[4] false, size := 1, bytes := 8, zero := [Value.nilFunc], fl := false }
theorem i_27 : TabE Tryd.prog (27, t_27, false) := ⟨by kernel_rfl, fun h => by simp at h⟩
def t_28 : TyD := { und := TypeDesc.func #[22] #[4] false, size := 1, bytes := 8, zero := [Value.nilFunc], fl := false }
theorem i_28 : TabE Tryd.prog (28, t_28, false) := ⟨by kernel_rfl, fun h => by simp at h⟩
def t_29 : TyD := { und := TypeDesc.struct #[{ name := "P", type := 2, offset := 0, embedded := false, tag := "", pkgPath := "", byteOffset := 0 }, { name := "Q", type := 2, offset := 1, embedded := false, tag := "", pkgPath := "", byteOffset := 8 }], size := 2, bytes := 16, zero := [Value.int IntKind.i64 0, Value.int IntKind.i64 0], fl := true }
theorem i_29 : TabE Tryd.prog (29, t_29, true) := ⟨by kernel_rfl, fun _ => by kernel_rfl⟩
def t_30 : TyD := { und := TypeDesc.struct #[{ name := "P", type := 2, offset := 0, embedded := false, tag := "", pkgPath := "", byteOffset := 0 }, { name := "Q", type := 2, offset := 1, embedded := false, tag := "", pkgPath := "", byteOffset := 8 }], size := 2, bytes := 16, zero := [Value.int IntKind.i64 0, Value.int IntKind.i64 0], fl := true }
theorem i_30 : TabE Tryd.prog (30, t_30, true) := ⟨by kernel_rfl, fun _ => by kernel_rfl⟩
def t_31 : TyD := { und := TypeDesc.struct #[{ name := "Thing", type := 2, offset := 0, embedded := false, tag := "", pkgPath := "", byteOffset := 0 }, { name := "Warm", type := 30, offset := 1, embedded := false, tag := "", pkgPath := "", byteOffset := 8 }, { name := "Start", type := 30, offset := 3, embedded := false, tag := "", pkgPath := "", byteOffset := 24 }], size := 5, bytes := 40, zero := [Value.int IntKind.i64 0, Value.int IntKind.i64 0, Value.int IntKind.i64 0, Value.int IntKind.i64 0, Value.int IntKind.i64 0], fl := true }
theorem i_31 : TabE Tryd.prog (31, t_31, true) := ⟨by kernel_rfl, fun _ => by kernel_rfl⟩
def t_32 : TyD := { und := TypeDesc.struct #[{ name := "Thing", type := 2, offset := 0, embedded := false, tag := "", pkgPath := "", byteOffset := 0 }, { name := "Warm", type := 30, offset := 1, embedded := false, tag := "", pkgPath := "", byteOffset := 8 }, { name := "Start", type := 30, offset := 3, embedded := false, tag := "", pkgPath := "", byteOffset := 24 }], size := 5, bytes := 40, zero := [Value.int IntKind.i64 0, Value.int IntKind.i64 0, Value.int IntKind.i64 0, Value.int IntKind.i64 0, Value.int IntKind.i64 0], fl := true }
theorem i_32 : TabE Tryd.prog (32, t_32, true) := ⟨by kernel_rfl, fun _ => by kernel_rfl⟩
def t_33 : TyD := { und := TypeDesc.struct #[{ name := "Low", type := 30, offset := 0, embedded := false, tag := "", pkgPath := "", byteOffset := 0 }, { name := "High", type := 30, offset := 2, embedded := false, tag := "", pkgPath := "", byteOffset := 16 }], size := 4, bytes := 32, zero := [Value.int IntKind.i64 0, Value.int IntKind.i64 0, Value.int IntKind.i64 0, Value.int IntKind.i64 0], fl := true }
theorem i_33 : TabE Tryd.prog (33, t_33, true) := ⟨by kernel_rfl, fun _ => by kernel_rfl⟩
def t_34 : TyD := { und := TypeDesc.struct #[{ name := "Low", type := 30, offset := 0, embedded := false, tag := "", pkgPath := "", byteOffset := 0 }, { name := "High", type := 30, offset := 2, embedded := false, tag := "", pkgPath := "", byteOffset := 16 }], size := 4, bytes := 32, zero := [Value.int IntKind.i64 0, Value.int IntKind.i64 0, Value.int IntKind.i64 0, Value.int IntKind.i64 0], fl := true }
theorem i_34 : TabE Tryd.prog (34, t_34, true) := ⟨by kernel_rfl, fun _ => by kernel_rfl⟩
def t_35 : TyD := { und := TypeDesc.struct #[{ name := "Shot", type := 32, offset := 0, embedded := false, tag := "", pkgPath := "", byteOffset := 0 }, { name := "First", type := 30, offset := 5, embedded := false, tag := "", pkgPath := "", byteOffset := 40 }, { name := "Second", type := 30, offset := 7, embedded := false, tag := "", pkgPath := "", byteOffset := 56 }, { name := "Length", type := 30, offset := 9, embedded := false, tag := "", pkgPath := "", byteOffset := 72 }, { name := "Open", type := 34, offset := 11, embedded := false, tag := "", pkgPath := "", byteOffset := 88 }], size := 15, bytes := 120, zero := [Value.int IntKind.i64 0, Value.int IntKind.i64 0, Value.int IntKind.i64 0, Value.int IntKind.i64 0, Value.int IntKind.i64 0, Value.int IntKind.i64 0, Value.int IntKind.i64 0, Value.int IntKind.i64 0, Value.int IntKind.i64 0, Value.int IntKind.i64 0, Value.int IntKind.i64 0, Value.int IntKind.i64 0, Value.int IntKind.i64 0, Value.int IntKind.i64 0, Value.int IntKind.i64 0], fl := true }
theorem i_35 : TabE Tryd.prog (35, t_35, true) := ⟨by kernel_rfl, fun _ => by kernel_rfl⟩
def t_36 : TyD := { und := TypeDesc.struct #[{ name := "Shot", type := 32, offset := 0, embedded := false, tag := "", pkgPath := "", byteOffset := 0 }, { name := "First", type := 30, offset := 5, embedded := false, tag := "", pkgPath := "", byteOffset := 40 }, { name := "Second", type := 30, offset := 7, embedded := false, tag := "", pkgPath := "", byteOffset := 56 }, { name := "Length", type := 30, offset := 9, embedded := false, tag := "", pkgPath := "", byteOffset := 72 }, { name := "Open", type := 34, offset := 11, embedded := false, tag := "", pkgPath := "", byteOffset := 88 }], size := 15, bytes := 120, zero := [Value.int IntKind.i64 0, Value.int IntKind.i64 0, Value.int IntKind.i64 0, Value.int IntKind.i64 0, Value.int IntKind.i64 0, Value.int IntKind.i64 0, Value.int IntKind.i64 0, Value.int IntKind.i64 0, Value.int IntKind.i64 0, Value.int IntKind.i64 0, Value.int IntKind.i64 0, Value.int IntKind.i64 0, Value.int IntKind.i64 0, Value.int IntKind.i64 0, Value.int IntKind.i64 0], fl := true }
theorem i_36 : TabE Tryd.prog (36, t_36, true) := ⟨by kernel_rfl, fun _ => by kernel_rfl⟩
def t_37 : TyD := { und := TypeDesc.func #[44] #[9] false, size := 1, bytes := 8, zero := [Value.nilFunc], fl := false }
theorem i_37 : TabE Tryd.prog (37, t_37, false) := ⟨by kernel_rfl, fun h => by simp at h⟩
def t_38 : TyD := { und := TypeDesc.struct #[{ name := "P", type := 2, offset := 0, embedded := false, tag := "", pkgPath := "", byteOffset := 0 }, { name := "Q", type := 2, offset := 1, embedded := false, tag := "", pkgPath := "", byteOffset := 8 }], size := 2, bytes := 16, zero := [Value.int IntKind.i64 0, Value.int IntKind.i64 0], fl := true }
theorem i_38 : TabE Tryd.prog (38, t_38, true) := ⟨by kernel_rfl, fun _ => by kernel_rfl⟩
def t_39 : TyD := { und := TypeDesc.struct #[{ name := "Thing", type := 2, offset := 0, embedded := false, tag := "", pkgPath := "", byteOffset := 0 }, { name := "Warm", type := 38, offset := 1, embedded := false, tag := "", pkgPath := "", byteOffset := 8 }, { name := "Start", type := 38, offset := 3, embedded := false, tag := "", pkgPath := "", byteOffset := 24 }], size := 5, bytes := 40, zero := [Value.int IntKind.i64 0, Value.int IntKind.i64 0, Value.int IntKind.i64 0, Value.int IntKind.i64 0, Value.int IntKind.i64 0], fl := true }
theorem i_39 : TabE Tryd.prog (39, t_39, true) := ⟨by kernel_rfl, fun _ => by kernel_rfl⟩
def t_40 : TyD := { und := TypeDesc.struct #[{ name := "Thing", type := 2, offset := 0, embedded := false, tag := "", pkgPath := "", byteOffset := 0 }, { name := "Warm", type := 38, offset := 1, embedded := false, tag := "", pkgPath := "", byteOffset := 8 }, { name := "Start", type := 38, offset := 3, embedded := false, tag := "", pkgPath := "", byteOffset := 24 }], size := 5, bytes := 40, zero := [Value.int IntKind.i64 0, Value.int IntKind.i64 0, Value.int IntKind.i64 0, Value.int IntKind.i64 0, Value.int IntKind.i64 0], fl := true }
theorem i_40 : TabE Tryd.prog (40, t_40, true) := ⟨by kernel_rfl, fun _ => by kernel_rfl⟩
def t_41 : TyD := { und := TypeDesc.struct #[{ name := "Low", type := 38, offset := 0, embedded := false, tag := "", pkgPath := "", byteOffset := 0 }, { name := "High", type := 38, offset := 2, embedded := false, tag := "", pkgPath := "", byteOffset := 16 }], size := 4, bytes := 32, zero := [Value.int IntKind.i64 0, Value.int IntKind.i64 0, Value.int IntKind.i64 0, Value.int IntKind.i64 0], fl := true }
theorem i_41 : TabE Tryd.prog (41, t_41, true) := ⟨by kernel_rfl, fun _ => by kernel_rfl⟩
def t_42 : TyD := { und := TypeDesc.struct #[{ name := "Low", type := 38, offset := 0, embedded := false, tag := "", pkgPath := "", byteOffset := 0 }, { name := "High", type := 38, offset := 2, embedded := false, tag := "", pkgPath := "", byteOffset := 16 }], size := 4, bytes := 32, zero := [Value.int IntKind.i64 0, Value.int IntKind.i64 0, Value.int IntKind.i64 0, Value.int IntKind.i64 0], fl := true }
theorem i_42 : TabE Tryd.prog (42, t_42, true) := ⟨by kernel_rfl, fun _ => by kernel_rfl⟩
def t_43 : TyD := { und := TypeDesc.struct #[{ name := "Shot", type := 40, offset := 0, embedded := false, tag := "", pkgPath := "", byteOffset := 0 }, { name := "First", type := 38, offset := 5, embedded := false, tag := "", pkgPath := "", byteOffset := 40 }, { name := "Second", type := 38, offset := 7, embedded := false, tag := "", pkgPath := "", byteOffset := 56 }, { name := "Length", type := 38, offset := 9, embedded := false, tag := "", pkgPath := "", byteOffset := 72 }, { name := "Open", type := 42, offset := 11, embedded := false, tag := "", pkgPath := "", byteOffset := 88 }], size := 15, bytes := 120, zero := [Value.int IntKind.i64 0, Value.int IntKind.i64 0, Value.int IntKind.i64 0, Value.int IntKind.i64 0, Value.int IntKind.i64 0, Value.int IntKind.i64 0, Value.int IntKind.i64 0, Value.int IntKind.i64 0, Value.int IntKind.i64 0, Value.int IntKind.i64 0, Value.int IntKind.i64 0, Value.int IntKind.i64 0, Value.int IntKind.i64 0, Value.int IntKind.i64 0, Value.int IntKind.i64 0], fl := true }
theorem i_43 : TabE Tryd.prog (43, t_43, true) := ⟨by kernel_rfl, fun _ => by kernel_rfl⟩
def t_44 : TyD := { und := TypeDesc.struct #[{ name := "Shot", type := 40, offset := 0, embedded := false, tag := "", pkgPath := "", byteOffset := 0 }, { name := "First", type := 38, offset := 5, embedded := false, tag := "", pkgPath := "", byteOffset := 40 }, { name := "Second", type := 38, offset := 7, embedded := false, tag := "", pkgPath := "", byteOffset := 56 }, { name := "Length", type := 38, offset := 9, embedded := false, tag := "", pkgPath := "", byteOffset := 72 }, { name := "Open", type := 42, offset := 11, embedded := false, tag := "", pkgPath := "", byteOffset := 88 }], size := 15, bytes := 120, zero := [Value.int IntKind.i64 0, Value.int IntKind.i64 0, Value.int IntKind.i64 0, Value.int IntKind.i64 0, Value.int IntKind.i64 0, Value.int IntKind.i64 0, Value.int IntKind.i64 0, Value.int IntKind.i64 0, Value.int IntKind.i64 0, Value.int IntKind.i64 0, Value.int IntKind.i64 0, Value.int IntKind.i64 0, Value.int IntKind.i64 0, Value.int IntKind.i64 0, Value.int IntKind.i64 0], fl := true }
theorem i_44 : TabE Tryd.prog (44, t_44, true) := ⟨by kernel_rfl, fun _ => by kernel_rfl⟩
def t_45 : TyD := { und := TypeDesc.func #[36] #[44] false, size := 1, bytes := 8, zero := [Value.nilFunc], fl := false }
theorem i_45 : TabE Tryd.prog (45, t_45, false) := ⟨by kernel_rfl, fun h => by simp at h⟩
def t_46 : TyD := { und := TypeDesc.func #[36] #[4] false, size := 1, bytes := 8, zero := [Value.nilFunc], fl := false }
theorem i_46 : TabE Tryd.prog (46, t_46, false) := ⟨by kernel_rfl, fun h => by simp at h⟩
def t_47 : TyD := { und := TypeDesc.slice 105, size := 1, bytes := 24, zero := [Value.slice none 0 0], fl := false }
theorem i_47 : TabE Tryd.prog (47, t_47, false) := ⟨by kernel_rfl, fun h => by simp at h⟩
def t_48 : TyD := { und := TypeDesc.func #[47, 3] #[3] false, size := 1, bytes := 8, zero := [Value.nilFunc], fl := false }
theorem i_48 : TabE Tryd.prog (48, t_48, false) := ⟨by kernel_rfl, fun h => by simp at h⟩
def t_49 : TyD := { und := TypeDesc.func #[50] #[9] false, size := 1, bytes := 8, zero := [Value.nilFunc], fl := false }
theorem i_49 : TabE Tryd.prog (49, t_49, false) := ⟨by kernel_rfl, fun h => by simp at h⟩
def t_50 : TyD := { und := TypeDesc.slice 108, size := 1, bytes := 24, zero := [Value.slice none 0 0], fl := false }
theorem i_50 : TabE Tryd.prog (50, t_50, false) := ⟨by kernel_rfl, fun h => by simp at h⟩
def t_51 : TyD := { und := TypeDesc.func #[47] #[50] false, size := 1, bytes := 8, zero := [Value.nilFunc], fl := false }
theorem i_51 : TabE Tryd.prog (51, t_51, false) := ⟨by kernel_rfl, fun h => by simp at h⟩
def t_52 : TyD := { und := TypeDesc.func #[50, 50] #[4] false, size := 1, bytes := 8, zero := [Value.nilFunc], fl := false }
theorem i_52 : TabE Tryd.prog (52, t_52, false) := ⟨by kernel_rfl, fun h => by simp at h⟩
def t_53 : TyD := { und := TypeDesc.func #[47] #[4] false, size := 1, bytes := 8, zero := [Value.nilFunc], fl := false }
theorem i_53 : TabE Tryd.prog (53, t_53, false) := ⟨by kernel_rfl, fun h => by simp at h⟩
def t_54 : TyD := { und := TypeDesc.slice 30, size := 1, bytes := 24, zero := [Value.slice none 0 0], fl := false }
theorem i_54 : TabE Tryd.prog (54, t_54, false) := ⟨by kernel_rfl, fun h => by simp at h⟩
def t_55 : TyD := { und := TypeDesc.struct #[{ name := "Unit", type := 30, offset := 0, embedded := false, tag := "", pkgPath := "", byteOffset := 0 }, { name := "Errors", type := 54, offset := 2, embedded := false, tag := "", pkgPath := "", byteOffset := 16 }], size := 3, bytes := 40, zero := [Value.int IntKind.i64 0, Value.int IntKind.i64 0, Value.slice none 0 0], fl := false }
theorem i_55 : TabE Tryd.prog (55, t_55, true) := ⟨by kernel_rfl, fun _ => by kernel_rfl⟩
def t_56 : TyD := { und := TypeDesc.struct #[{ name := "Unit", type := 30, offset := 0, embedded := false, tag := "", pkgPath := "", byteOffset := 0 }, { name := "Errors", type := 54, offset := 2, embedded := false, tag := "", pkgPath := "", byteOffset := 16 }], size := 3, bytes := 40, zero := [Value.int IntKind.i64 0, Value.int IntKind.i64 0, Value.slice none 0 0], fl := false }
theorem i_56 : TabE Tryd.prog (56, t_56, true) := ⟨by kernel_rfl, fun _ => by kernel_rfl⟩
def t_57 : TyD := { und := TypeDesc.struct #[{ name := "Parts", type := 2, offset := 0, embedded := false, tag := "", pkgPath := "", byteOffset := 0 }, { name := "Back", type := 4, offset := 1, embedded := false, tag := "", pkgPath := "", byteOffset := 8 }], size := 2, bytes := 16, zero := [Value.int IntKind.i64 0, Value.bool false], fl := true }
theorem i_57 : TabE Tryd.prog (57, t_57, true) := ⟨by kernel_rfl, fun _ => by kernel_rfl⟩
def t_58 : TyD := { und := TypeDesc.struct #[{ name := "Parts", type := 2, offset := 0, embedded := false, tag := "", pkgPath := "", byteOffset := 0 }, { name := "Back", type := 4, offset := 1, embedded := false, tag := "", pkgPath := "", byteOffset := 8 }], size := 2, bytes := 16, zero := [Value.int IntKind.i64 0, Value.bool false], fl := true }
theorem i_58 : TabE Tryd.prog (58, t_58, true) := ⟨by kernel_rfl, fun _ => by kernel_rfl⟩
def t_59 : TyD := { und := TypeDesc.slice 175, size := 1, bytes := 24, zero := [Value.slice none 0 0], fl := false }
theorem i_59 : TabE Tryd.prog (59, t_59, false) := ⟨by kernel_rfl, fun h => by simp at h⟩
def t_60 : TyD := { und := TypeDesc.struct #[{ name := "Scale", type := 56, offset := 0, embedded := false, tag := "", pkgPath := "", byteOffset := 0 }, { name := "Vernier", type := 58, offset := 3, embedded := false, tag := "", pkgPath := "", byteOffset := 40 }, { name := "Grows", type := 30, offset := 5, embedded := false, tag := "", pkgPath := "", byteOffset := 56 }, { name := "Things", type := 59, offset := 7, embedded := false, tag := "", pkgPath := "", byteOffset := 72 }], size := 8, bytes := 96, zero := [Value.int IntKind.i64 0, Value.int IntKind.i64 0, Value.slice none 0 0, Value.int IntKind.i64 0, Value.bool false, Value.int IntKind.i64 0, Value.int IntKind.i64 0, Value.slice none 0 0], fl := false }
theorem i_60 : TabE Tryd.prog (60, t_60, true) := ⟨by kernel_rfl, fun _ => by kernel_rfl⟩
def t_61 : TyD := { und := TypeDesc.struct #[{ name := "Scale", type := 56, offset := 0, embedded := false, tag := "", pkgPath := "", byteOffset := 0 }, { name := "Vernier", type := 58, offset := 3, embedded := false, tag := "", pkgPath := "", byteOffset := 40 }, { name := "Grows", type := 30, offset := 5, embedded := false, tag := "", pkgPath := "", byteOffset := 56 }, { name := "Things", type := 59, offset := 7, embedded := false, tag := "", pkgPath := "", byteOffset := 72 }], size := 8, bytes := 96, zero := [Value.int IntKind.i64 0, Value.int IntKind.i64 0, Value.slice none 0 0, Value.int IntKind.i64 0, Value.bool false, Value.int IntKind.i64 0, Value.int IntKind.i64 0, Value.slice none 0 0], fl := false }
theorem i_61 : TabE Tryd.prog (61, t_61, true) := ⟨by kernel_rfl, fun _ => by kernel_rfl⟩
def t_62 : TyD := { und := TypeDesc.func #[61, 3] #[3] false, size := 1, bytes := 8, zero := [Value.nilFunc], fl := false }
theorem i_62 : TabE Tryd.prog (62, t_62, false) := ⟨by kernel_rfl, fun h => by simp at h⟩
def t_63 : TyD := { und := TypeDesc.func #[70] #[9] false, size := 1, bytes := 8, zero := [Value.nilFunc], fl := false }
theorem i_63 : TabE Tryd.prog (63, t_63, false) := ⟨by kernel_rfl, fun h => by simp at h⟩
def t_64 : TyD := { und := TypeDesc.slice 38, size := 1, bytes := 24, zero := [Value.slice none 0 0], fl := false }
theorem i_64 : TabE Tryd.prog (64, t_64, false) := ⟨by kernel_rfl, fun h => by simp at h⟩
def t_65 : TyD := { und := TypeDesc.struct #[{ name := "Unit", type := 38, offset := 0, embedded := false, tag := "", pkgPath := "", byteOffset := 0 }, { name := "Errors", type := 64, offset := 2, embedded := false, tag := "", pkgPath := "", byteOffset := 16 }], size := 3, bytes := 40, zero := [Value.int IntKind.i64 0, Value.int IntKind.i64 0, Value.slice none 0 0], fl := false }
theorem i_65 : TabE Tryd.prog (65, t_65, true) := ⟨by kernel_rfl, fun _ => by kernel_rfl⟩
def t_66 : TyD := { und := TypeDesc.struct #[{ name := "Unit", type := 38, offset := 0, embedded := false, tag := "", pkgPath := "", byteOffset := 0 }, { name := "Errors", type := 64, offset := 2, embedded := false, tag := "", pkgPath := "", byteOffset := 16 }], size := 3, bytes := 40, zero := [Value.int IntKind.i64 0, Value.int IntKind.i64 0, Value.slice none 0 0], fl := false }
theorem i_66 : TabE Tryd.prog (66, t_66, true) := ⟨by kernel_rfl, fun _ => by kernel_rfl⟩
def t_67 : TyD := { und := TypeDesc.struct #[{ name := "Parts", type := 2, offset := 0, embedded := false, tag := "", pkgPath := "", byteOffset := 0 }, { name := "Back", type := 4, offset := 1, embedded := false, tag := "", pkgPath := "", byteOffset := 8 }], size := 2, bytes := 16, zero := [Value.int IntKind.i64 0, Value.bool false], fl := true }
theorem i_67 : TabE Tryd.prog (67, t_67, true) := ⟨by kernel_rfl, fun _ => by kernel_rfl⟩
def t_68 : TyD := { und := TypeDesc.slice 123, size := 1, bytes := 24, zero := [Value.slice none 0 0], fl := false }
theorem i_68 : TabE Tryd.prog (68, t_68, false) := ⟨by kernel_rfl, fun h => by simp at h⟩
def t_69 : TyD := { und := TypeDesc.struct #[{ name := "Scale", type := 66, offset := 0, embedded := false, tag := "", pkgPath := "", byteOffset := 0 }, { name := "Vernier", type := 67, offset := 3, embedded := false, tag := "", pkgPath := "", byteOffset := 40 }, { name := "Grows", type := 38, offset := 5, embedded := false, tag := "", pkgPath := "", byteOffset := 56 }, { name := "Things", type := 68, offset := 7, embedded := false, tag := "", pkgPath := "", byteOffset := 72 }], size := 8, bytes := 96, zero := [Value.int IntKind.i64 0, Value.int IntKind.i64 0, Value.slice none 0 0, Value.int IntKind.i64 0, Value.bool false, Value.int IntKind.i64 0, Value.int IntKind.i64 0, Value.slice none 0 0], fl := false }
theorem i_69 : TabE Tryd.prog (69, t_69, true) := ⟨by kernel_rfl, fun _ => by kernel_rfl⟩
def t_70 : TyD := { und := TypeDesc.struct #[{ name := "Scale", type := 66, offset := 0, embedded := false, tag := "", pkgPath := "", byteOffset := 0 }, { name := "Vernier", type := 67, offset := 3, embedded := false, tag := "", pkgPath := "", byteOffset := 40 }, { name := "Grows", type := 38, offset := 5, embedded := false, tag := "", pkgPath := "", byteOffset := 56 }, { name := "Things", type := 68, offset := 7, embedded := false, tag := "", pkgPath := "", byteOffset := 72 }], size := 8, bytes := 96, zero := [Value.int IntKind.i64 0, Value.int IntKind.i64 0, Value.slice none 0 0, Value.int IntKind.i64 0, Value.bool false, Value.int IntKind.i64 0, Value.int IntKind.i64 0, Value.slice none 0 0], fl := false }
theorem i_70 : TabE Tryd.prog (70, t_70, true) := ⟨by kernel_rfl, fun _ => by kernel_rfl⟩
def t_71 : TyD := { und := TypeDesc.func #[61] #[70] false, size := 1, bytes := 8, zero := [Value.nilFunc], fl := false }
theorem i_71 : TabE Tryd.prog (71, t_71, false) := ⟨by kernel_rfl, fun h => by simp at h⟩
def t_72 : TyD := { und := TypeDesc.func #[70, 70] #[4] false, size := 1, bytes := 8, zero := [Value.nilFunc], fl := false }
theorem i_72 : TabE Tryd.prog (72, t_72, false) := ⟨by kernel_rfl, fun h => by simp at h⟩
def t_73 : TyD := { und := TypeDesc.func #[61] #[4] false, size := 1, bytes := 8, zero := [Value.nilFunc], fl := false }
theorem i_73 : TabE Tryd.prog (73, t_73, false) := ⟨by kernel_rfl, fun h => by simp at h⟩
def t_75 : TyD := { und := TypeDesc.func #[9] #[25, 2] false, size := 1, bytes := 8, zero := [Value.nilFunc], fl := false }
theorem i_75 : TabE Tryd.prog (75, t_75, false) := ⟨by kernel_rfl, fun h => by simp at h⟩
def t_76 : TyD := { und := TypeDesc.func #[25, 3] #[3] false, size := 1, bytes := 8, zero := [Value.nilFunc], fl := false }
theorem i_76 : TabE Tryd.prog (76, t_76, false) := ⟨by kernel_rfl, fun h => by simp at h⟩
def t_77 : TyD := { und := TypeDesc.func #[9] #[4] false, size := 1, bytes := 8, zero := [Value.nilFunc], fl := false }
theorem i_77 : TabE Tryd.prog (77, t_77, false) := ⟨by kernel_rfl, fun h => by simp at h⟩
def t_79 : TyD := { und := TypeDesc.func #[9] #[44, 2] false, size := 1, bytes := 8, zero := [Value.nilFunc], fl := false }
theorem i_79 : TabE Tryd.prog (79, t_79, false) := ⟨by kernel_rfl, fun h => by simp at h⟩
def t_80 : TyD := { und := TypeDesc.func #[44, 44] #[4] false, size := 1, bytes := 8, zero := [Value.nilFunc], fl := false }
theorem i_80 : TabE Tryd.prog (80, t_80, false) := ⟨by kernel_rfl, fun h => by simp at h⟩
def t_81 : TyD := { und := TypeDesc.func #[84, 3] #[3] false, size := 1, bytes := 8, zero := [Value.nilFunc], fl := false }
theorem i_81 : TabE Tryd.prog (81, t_81, false) := ⟨by kernel_rfl, fun h => by simp at h⟩
def t_82 : TyD := { und := TypeDesc.int IntKind.i16, size := 1, bytes := 2, zero := [Value.int IntKind.i16 0], fl := true }
theorem i_82 : TabE Tryd.prog (82, t_82, false) := ⟨by kernel_rfl, fun h => by simp at h⟩
def t_83 : TyD := { und := TypeDesc.struct #[{ name := "Name", type := 9, offset := 0, embedded := false, tag := "", pkgPath := "", byteOffset := 0 }, { name := "Bias", type := 82, offset := 1, embedded := false, tag := "", pkgPath := "", byteOffset := 16 }, { name := "Unit", type := 82, offset := 2, embedded := false, tag := "", pkgPath := "", byteOffset := 18 }, { name := "Up", type := 4, offset := 3, embedded := false, tag := "", pkgPath := "", byteOffset := 20 }], size := 4, bytes := 24, zero := [Value.string ⟨#[]⟩, Value.int IntKind.i16 0, Value.int IntKind.i16 0, Value.bool false], fl := true }
theorem i_83 : TabE Tryd.prog (83, t_83, true) := ⟨by kernel_rfl, fun _ => by kernel_rfl⟩
def t_84 : TyD := { und := TypeDesc.struct #[{ name := "Name", type := 9, offset := 0, embedded := false, tag := "", pkgPath := "", byteOffset := 0 }, { name := "Bias", type := 82, offset := 1, embedded := false, tag := "", pkgPath := "", byteOffset := 16 }, { name := "Unit", type := 82, offset := 2, embedded := false, tag := "", pkgPath := "", byteOffset := 18 }, { name := "Up", type := 4, offset := 3, embedded := false, tag := "", pkgPath := "", byteOffset := 20 }], size := 4, bytes := 24, zero := [Value.string ⟨#[]⟩, Value.int IntKind.i16 0, Value.int IntKind.i16 0, Value.bool false], fl := true }
theorem i_84 : TabE Tryd.prog (84, t_84, true) := ⟨by kernel_rfl, fun _ => by kernel_rfl⟩
def t_85 : TyD := { und := TypeDesc.func #[25] #[4] false, size := 1, bytes := 8, zero := [Value.nilFunc], fl := false }
theorem i_85 : TabE Tryd.prog (85, t_85, false) := ⟨by kernel_rfl, fun h => by simp at h⟩
def t_86 : TyD := { und := TypeDesc.struct #[{ name := "Name", type := 9, offset := 0, embedded := false, tag := "", pkgPath := "", byteOffset := 0 }, { name := "Bias", type := 82, offset := 1, embedded := false, tag := "", pkgPath := "", byteOffset := 16 }, { name := "Unit", type := 82, offset := 2, embedded := false, tag := "", pkgPath := "", byteOffset := 18 }, { name := "Up", type := 4, offset := 3, embedded := false, tag := "", pkgPath := "", byteOffset := 20 }], size := 4, bytes := 24, zero := [Value.string ⟨#[]⟩, Value.int IntKind.i16 0, Value.int IntKind.i16 0, Value.bool false], fl := true }
theorem i_86 : TabE Tryd.prog (86, t_86, true) := ⟨by kernel_rfl, fun _ => by kernel_rfl⟩
def t_87 : TyD := { und := TypeDesc.func #[84] #[86] false, size := 1, bytes := 8, zero := [Value.nilFunc], fl := false }
theorem i_87 : TabE Tryd.prog (87, t_87, false) := ⟨by kernel_rfl, fun h => by simp at h⟩
def t_88 : TyD := { und := TypeDesc.func #[90, 9] #[9] false, size := 1, bytes := 8, zero := [Value.nilFunc], fl := false }
theorem i_88 : TabE Tryd.prog (88, t_88, false) := ⟨by kernel_rfl, fun h => by simp at h⟩
def t_89 : TyD := { und := TypeDesc.func #[2] #[9] false, size := 1, bytes := 8, zero := [Value.nilFunc], fl := false }
theorem i_89 : TabE Tryd.prog (89, t_89, false) := ⟨by kernel_rfl, fun h => by simp at h⟩
def t_90 : TyD := { und := TypeDesc.slice 9, size := 1, bytes := 24, zero := [Value.slice none 0 0], fl := false }
theorem i_90 : TabE Tryd.prog (90, t_90, false) := ⟨by kernel_rfl, fun h => by simp at h⟩
def t_91 : TyD := { und := TypeDesc.func #[86, 86] #[4] false, size := 1, bytes := 8, zero := [Value.nilFunc], fl := false }
theorem i_91 : TabE Tryd.prog (91, t_91, false) := ⟨by kernel_rfl, fun h => by simp at h⟩
def t_92 : TyD := { und := TypeDesc.func #[93] #[4] false, size := 1, bytes := 8, zero := [Value.nilFunc], fl := false }
theorem i_92 : TabE Tryd.prog (92, t_92, false) := ⟨by kernel_rfl, fun h => by simp at h⟩
def t_93 : TyD := { und := TypeDesc.pointer 44, size := 1, bytes := 8, zero := [Value.pointer none], fl := false }
theorem i_93 : TabE Tryd.prog (93, t_93, false) := ⟨by kernel_rfl, fun h => by simp at h⟩
def t_94 : TyD := { und := TypeDesc.func #[93] #[9] false, size := 1, bytes := 8, zero := [Value.nilFunc], fl := false }
theorem i_94 : TabE Tryd.prog (94, t_94, false) := ⟨by kernel_rfl, fun h => by simp at h⟩
def t_95 : TyD := { und := TypeDesc.func #[32] #[40] false, size := 1, bytes := 8, zero := [Value.nilFunc], fl := false }
theorem i_95 : TabE Tryd.prog (95, t_95, false) := ⟨by kernel_rfl, fun h => by simp at h⟩
def t_96 : TyD := { und := TypeDesc.func #[30] #[38] false, size := 1, bytes := 8, zero := [Value.nilFunc], fl := false }
theorem i_96 : TabE Tryd.prog (96, t_96, false) := ⟨by kernel_rfl, fun h => by simp at h⟩
def t_97 : TyD := { und := TypeDesc.func #[34] #[42] false, size := 1, bytes := 8, zero := [Value.nilFunc], fl := false }
theorem i_97 : TabE Tryd.prog (97, t_97, false) := ⟨by kernel_rfl, fun h => by simp at h⟩
def t_98 : TyD := { und := TypeDesc.func #[2, 2, 2] #[4] false, size := 1, bytes := 8, zero := [Value.nilFunc], fl := false }
theorem i_98 : TabE Tryd.prog (98, t_98, false) := ⟨by kernel_rfl, fun h => by simp at h⟩
def t_99 : TyD := { und := TypeDesc.func #[64] #[4] true, size := 1, bytes := 8, zero := [Value.nilFunc], fl := false }
theorem i_99 : TabE Tryd.prog (99, t_99, false) := ⟨by kernel_rfl, fun h => by simp at h⟩
def t_100 : TyD := { und := TypeDesc.func #[42] #[4] false, size := 1, bytes := 8, zero := [Value.nilFunc], fl := false }
theorem i_100 : TabE Tryd.prog (100, t_100, false) := ⟨by kernel_rfl, fun h => by simp at h⟩
def t_101 : TyD := { und := TypeDesc.func #[64] #[9] true, size := 1, bytes := 8, zero := [Value.nilFunc], fl := false }
theorem i_101 : TabE Tryd.prog (101, t_101, false) := ⟨by kernel_rfl, fun h => by simp at h⟩
def t_102 : TyD := { und := TypeDesc.func #[42] #[9] false, size := 1, bytes := 8, zero := [Value.nilFunc], fl := false }
theorem i_102 : TabE Tryd.prog (102, t_102, false) := ⟨by kernel_rfl, fun h => by simp at h⟩
def t_103 : TyD := { und := TypeDesc.func #[105, 3] #[3] false, size := 1, bytes := 8, zero := [Value.nilFunc], fl := false }
theorem i_103 : TabE Tryd.prog (103, t_103, false) := ⟨by kernel_rfl, fun h => by simp at h⟩
def t_104 : TyD := { und := TypeDesc.struct #[{ name := "Name", type := 9, offset := 0, embedded := false, tag := "", pkgPath := "", byteOffset := 0 }, { name := "From", type := 2, offset := 1, embedded := false, tag := "", pkgPath := "", byteOffset := 16 }, { name := "Value", type := 34, offset := 2, embedded := false, tag := "", pkgPath := "", byteOffset := 24 }, { name := "Drift", type := 30, offset := 6, embedded := false, tag := "", pkgPath := "", byteOffset := 56 }, { name := "Made", type := 2, offset := 8, embedded := false, tag := "", pkgPath := "", byteOffset := 72 }, { name := "Good", type := 2, offset := 9, embedded := false, tag := "", pkgPath := "", byteOffset := 80 }], size := 10, bytes := 88, zero := [Value.string ⟨#[]⟩, Value.int IntKind.i64 0, Value.int IntKind.i64 0, Value.int IntKind.i64 0, Value.int IntKind.i64 0, Value.int IntKind.i64 0, Value.int IntKind.i64 0, Value.int IntKind.i64 0, Value.int IntKind.i64 0, Value.int IntKind.i64 0], fl := true }
theorem i_104 : TabE Tryd.prog (104, t_104, true) := ⟨by kernel_rfl, fun _ => by kernel_rfl⟩
def t_105 : TyD := { und := TypeDesc.struct #[{ name := "Name", type := 9, offset := 0, embedded := false, tag := "", pkgPath := "", byteOffset := 0 }, { name := "From", type := 2, offset := 1, embedded := false, tag := "", pkgPath := "", byteOffset := 16 }, { name := "Value", type := 34, offset := 2, embedded := false, tag := "", pkgPath := "", byteOffset := 24 }, { name := "Drift", type := 30, offset := 6, embedded := false, tag := "", pkgPath := "", byteOffset := 56 }, { name := "Made", type := 2, offset := 8, embedded := false, tag := "", pkgPath := "", byteOffset := 72 }, { name := "Good", type := 2, offset := 9, embedded := false, tag := "", pkgPath := "", byteOffset := 80 }], size := 10, bytes := 88, zero := [Value.string ⟨#[]⟩, Value.int IntKind.i64 0, Value.int IntKind.i64 0, Value.int IntKind.i64 0, Value.int IntKind.i64 0, Value.int IntKind.i64 0, Value.int IntKind.i64 0, Value.int IntKind.i64 0, Value.int IntKind.i64 0, Value.int IntKind.i64 0], fl := true }
theorem i_105 : TabE Tryd.prog (105, t_105, true) := ⟨by kernel_rfl, fun _ => by kernel_rfl⟩
def t_106 : TyD := { und := TypeDesc.func #[50] #[4] false, size := 1, bytes := 8, zero := [Value.nilFunc], fl := false }
theorem i_106 : TabE Tryd.prog (106, t_106, false) := ⟨by kernel_rfl, fun h => by simp at h⟩
def t_107 : TyD := { und := TypeDesc.struct #[{ name := "Name", type := 9, offset := 0, embedded := false, tag := "", pkgPath := "", byteOffset := 0 }, { name := "From", type := 2, offset := 1, embedded := false, tag := "", pkgPath := "", byteOffset := 16 }, { name := "Value", type := 42, offset := 2, embedded := false, tag := "", pkgPath := "", byteOffset := 24 }, { name := "Drift", type := 38, offset := 6, embedded := false, tag := "", pkgPath := "", byteOffset := 56 }, { name := "Made", type := 2, offset := 8, embedded := false, tag := "", pkgPath := "", byteOffset := 72 }, { name := "Good", type := 2, offset := 9, embedded := false, tag := "", pkgPath := "", byteOffset := 80 }], size := 10, bytes := 88, zero := [Value.string ⟨#[]⟩, Value.int IntKind.i64 0, Value.int IntKind.i64 0, Value.int IntKind.i64 0, Value.int IntKind.i64 0, Value.int IntKind.i64 0, Value.int IntKind.i64 0, Value.int IntKind.i64 0, Value.int IntKind.i64 0, Value.int IntKind.i64 0], fl := true }
theorem i_107 : TabE Tryd.prog (107, t_107, true) := ⟨by kernel_rfl, fun _ => by kernel_rfl⟩
def t_108 : TyD := { und := TypeDesc.struct #[{ name := "Name", type := 9, offset := 0, embedded := false, tag := "", pkgPath := "", byteOffset := 0 }, { name := "From", type := 2, offset := 1, embedded := false, tag := "", pkgPath := "", byteOffset := 16 }, { name := "Value", type := 42, offset := 2, embedded := false, tag := "", pkgPath := "", byteOffset := 24 }, { name := "Drift", type := 38, offset := 6, embedded := false, tag := "", pkgPath := "", byteOffset := 56 }, { name := "Made", type := 2, offset := 8, embedded := false, tag := "", pkgPath := "", byteOffset := 72 }, { name := "Good", type := 2, offset := 9, embedded := false, tag := "", pkgPath := "", byteOffset := 80 }], size := 10, bytes := 88, zero := [Value.string ⟨#[]⟩, Value.int IntKind.i64 0, Value.int IntKind.i64 0, Value.int IntKind.i64 0, Value.int IntKind.i64 0, Value.int IntKind.i64 0, Value.int IntKind.i64 0, Value.int IntKind.i64 0, Value.int IntKind.i64 0, Value.int IntKind.i64 0], fl := true }
theorem i_108 : TabE Tryd.prog (108, t_108, true) := ⟨by kernel_rfl, fun _ => by kernel_rfl⟩
def t_109 : TyD := { und := TypeDesc.func #[105] #[108] false, size := 1, bytes := 8, zero := [Value.nilFunc], fl := false }
theorem i_109 : TabE Tryd.prog (109, t_109, false) := ⟨by kernel_rfl, fun h => by simp at h⟩
def t_110 : TyD := { und := TypeDesc.func #[38] #[9] false, size := 1, bytes := 8, zero := [Value.nilFunc], fl := false }
theorem i_110 : TabE Tryd.prog (110, t_110, false) := ⟨by kernel_rfl, fun h => by simp at h⟩
def t_111 : TyD := { und := TypeDesc.func #[108, 108] #[4] false, size := 1, bytes := 8, zero := [Value.nilFunc], fl := false }
theorem i_111 : TabE Tryd.prog (111, t_111, false) := ⟨by kernel_rfl, fun h => by simp at h⟩
def t_112 : TyD := { und := TypeDesc.func #[56, 3] #[3] false, size := 1, bytes := 8, zero := [Value.nilFunc], fl := false }
theorem i_112 : TabE Tryd.prog (112, t_112, false) := ⟨by kernel_rfl, fun h => by simp at h⟩
def t_113 : TyD := { und := TypeDesc.func #[59, 3] #[3] false, size := 1, bytes := 8, zero := [Value.nilFunc], fl := false }
theorem i_113 : TabE Tryd.prog (113, t_113, false) := ⟨by kernel_rfl, fun h => by simp at h⟩
def t_114 : TyD := { und := TypeDesc.func #[115] #[4] false, size := 1, bytes := 8, zero := [Value.nilFunc], fl := false }
theorem i_114 : TabE Tryd.prog (114, t_114, false) := ⟨by kernel_rfl, fun h => by simp at h⟩
def t_115 : TyD := { und := TypeDesc.pointer 70, size := 1, bytes := 8, zero := [Value.pointer none], fl := false }
theorem i_115 : TabE Tryd.prog (115, t_115, false) := ⟨by kernel_rfl, fun h => by simp at h⟩
def t_116 : TyD := { und := TypeDesc.func #[115] #[9] false, size := 1, bytes := 8, zero := [Value.nilFunc], fl := false }
theorem i_116 : TabE Tryd.prog (116, t_116, false) := ⟨by kernel_rfl, fun h => by simp at h⟩
def t_117 : TyD := { und := TypeDesc.func #[56] #[66] false, size := 1, bytes := 8, zero := [Value.nilFunc], fl := false }
theorem i_117 : TabE Tryd.prog (117, t_117, false) := ⟨by kernel_rfl, fun h => by simp at h⟩
def t_118 : TyD := { und := TypeDesc.func #[58] #[67] false, size := 1, bytes := 8, zero := [Value.nilFunc], fl := false }
theorem i_118 : TabE Tryd.prog (118, t_118, false) := ⟨by kernel_rfl, fun h => by simp at h⟩
def t_119 : TyD := { und := TypeDesc.func #[59] #[68] false, size := 1, bytes := 8, zero := [Value.nilFunc], fl := false }
theorem i_119 : TabE Tryd.prog (119, t_119, false) := ⟨by kernel_rfl, fun h => by simp at h⟩
def t_120 : TyD := { und := TypeDesc.func #[70] #[4] false, size := 1, bytes := 8, zero := [Value.nilFunc], fl := false }
theorem i_120 : TabE Tryd.prog (120, t_120, false) := ⟨by kernel_rfl, fun h => by simp at h⟩
def t_121 : TyD := { und := TypeDesc.func #[66] #[9] false, size := 1, bytes := 8, zero := [Value.nilFunc], fl := false }
theorem i_121 : TabE Tryd.prog (121, t_121, false) := ⟨by kernel_rfl, fun h => by simp at h⟩
def t_122 : TyD := { und := TypeDesc.struct #[{ name := "Name", type := 9, offset := 0, embedded := false, tag := "", pkgPath := "", byteOffset := 0 }, { name := "Length", type := 38, offset := 1, embedded := false, tag := "", pkgPath := "", byteOffset := 16 }, { name := "Grows", type := 38, offset := 3, embedded := false, tag := "", pkgPath := "", byteOffset := 32 }], size := 5, bytes := 48, zero := [Value.string ⟨#[]⟩, Value.int IntKind.i64 0, Value.int IntKind.i64 0, Value.int IntKind.i64 0, Value.int IntKind.i64 0], fl := true }
theorem i_122 : TabE Tryd.prog (122, t_122, true) := ⟨by kernel_rfl, fun _ => by kernel_rfl⟩
def t_123 : TyD := { und := TypeDesc.struct #[{ name := "Name", type := 9, offset := 0, embedded := false, tag := "", pkgPath := "", byteOffset := 0 }, { name := "Length", type := 38, offset := 1, embedded := false, tag := "", pkgPath := "", byteOffset := 16 }, { name := "Grows", type := 38, offset := 3, embedded := false, tag := "", pkgPath := "", byteOffset := 32 }], size := 5, bytes := 48, zero := [Value.string ⟨#[]⟩, Value.int IntKind.i64 0, Value.int IntKind.i64 0, Value.int IntKind.i64 0, Value.int IntKind.i64 0], fl := true }
theorem i_123 : TabE Tryd.prog (123, t_123, true) := ⟨by kernel_rfl, fun _ => by kernel_rfl⟩
def t_124 : TyD := { und := TypeDesc.func #[66, 66] #[4] false, size := 1, bytes := 8, zero := [Value.nilFunc], fl := false }
theorem i_124 : TabE Tryd.prog (124, t_124, false) := ⟨by kernel_rfl, fun h => by simp at h⟩
def t_125 : TyD := { und := TypeDesc.func #[67, 67] #[4] false, size := 1, bytes := 8, zero := [Value.nilFunc], fl := false }
theorem i_125 : TabE Tryd.prog (125, t_125, false) := ⟨by kernel_rfl, fun h => by simp at h⟩
def t_126 : TyD := { und := TypeDesc.func #[38, 38] #[4] false, size := 1, bytes := 8, zero := [Value.nilFunc], fl := false }
theorem i_126 : TabE Tryd.prog (126, t_126, false) := ⟨by kernel_rfl, fun h => by simp at h⟩
def t_127 : TyD := { und := TypeDesc.func #[68, 68] #[4] false, size := 1, bytes := 8, zero := [Value.nilFunc], fl := false }
theorem i_127 : TabE Tryd.prog (127, t_127, false) := ⟨by kernel_rfl, fun h => by simp at h⟩
def t_128 : TyD := { und := TypeDesc.func #[9, 5] #[90] false, size := 1, bytes := 8, zero := [Value.nilFunc], fl := false }
theorem i_128 : TabE Tryd.prog (128, t_128, false) := ⟨by kernel_rfl, fun h => by simp at h⟩
def t_130 : TyD := { und := TypeDesc.func #[9] #[2, 4] false, size := 1, bytes := 8, zero := [Value.nilFunc], fl := false }
theorem i_130 : TabE Tryd.prog (130, t_130, false) := ⟨by kernel_rfl, fun h => by simp at h⟩
def t_132 : TyD := { und := TypeDesc.func #[9] #[90, 4] false, size := 1, bytes := 8, zero := [Value.nilFunc], fl := false }
theorem i_132 : TabE Tryd.prog (132, t_132, false) := ⟨by kernel_rfl, fun h => by simp at h⟩
def t_133 : TyD := { und := TypeDesc.func #[9, 9] #[90] false, size := 1, bytes := 8, zero := [Value.nilFunc], fl := false }
theorem i_133 : TabE Tryd.prog (133, t_133, false) := ⟨by kernel_rfl, fun h => by simp at h⟩
def t_134 : TyD := { und := TypeDesc.func #[9] #[2] false, size := 1, bytes := 8, zero := [Value.nilFunc], fl := false }
theorem i_134 : TabE Tryd.prog (134, t_134, false) := ⟨by kernel_rfl, fun h => by simp at h⟩
def t_135 : TyD := { und := TypeDesc.func #[3] #[9] false, size := 1, bytes := 8, zero := [Value.nilFunc], fl := false }
theorem i_135 : TabE Tryd.prog (135, t_135, false) := ⟨by kernel_rfl, fun h => by simp at h⟩
def t_137 : TyD := { und := TypeDesc.func #[9] #[38, 4] false, size := 1, bytes := 8, zero := [Value.nilFunc], fl := false }
theorem i_137 : TabE Tryd.prog (137, t_137, false) := ⟨by kernel_rfl, fun h => by simp at h⟩
def t_139 : TyD := { und := TypeDesc.func #[9] #[42, 4] false, size := 1, bytes := 8, zero := [Value.nilFunc], fl := false }
theorem i_139 : TabE Tryd.prog (139, t_139, false) := ⟨by kernel_rfl, fun h => by simp at h⟩
def t_140 : TyD := { und := TypeDesc.func #[90] #[64] false, size := 1, bytes := 8, zero := [Value.nilFunc], fl := false }
theorem i_140 : TabE Tryd.prog (140, t_140, false) := ⟨by kernel_rfl, fun h => by simp at h⟩
def t_142 : TyD := { und := TypeDesc.func #[9] #[42, 2] false, size := 1, bytes := 8, zero := [Value.nilFunc], fl := false }
theorem i_142 : TabE Tryd.prog (142, t_142, false) := ⟨by kernel_rfl, fun h => by simp at h⟩
def t_143 : TyD := { und := TypeDesc.func #[40, 40] #[4] false, size := 1, bytes := 8, zero := [Value.nilFunc], fl := false }
theorem i_143 : TabE Tryd.prog (143, t_143, false) := ⟨by kernel_rfl, fun h => by simp at h⟩
def t_144 : TyD := { und := TypeDesc.func #[42, 42] #[4] false, size := 1, bytes := 8, zero := [Value.nilFunc], fl := false }
theorem i_144 : TabE Tryd.prog (144, t_144, false) := ⟨by kernel_rfl, fun h => by simp at h⟩
def t_145 : TyD := { und := TypeDesc.func #[146] #[4] false, size := 1, bytes := 8, zero := [Value.nilFunc], fl := false }
theorem i_145 : TabE Tryd.prog (145, t_145, false) := ⟨by kernel_rfl, fun h => by simp at h⟩
def t_146 : TyD := { und := TypeDesc.pointer 86, size := 1, bytes := 8, zero := [Value.pointer none], fl := false }
theorem i_146 : TabE Tryd.prog (146, t_146, false) := ⟨by kernel_rfl, fun h => by simp at h⟩
def t_147 : TyD := { und := TypeDesc.func #[25, 148] #[4] false, size := 1, bytes := 8, zero := [Value.nilFunc], fl := false }
theorem i_147 : TabE Tryd.prog (147, t_147, false) := ⟨by kernel_rfl, fun h => by simp at h⟩
def t_148 : TyD := { und := TypeDesc.func #[86] #[4] false, size := 1, bytes := 8, zero := [Value.nilFunc], fl := false }
theorem i_148 : TabE Tryd.prog (148, t_148, false) := ⟨by kernel_rfl, fun h => by simp at h⟩
def t_149 : TyD := { und := TypeDesc.pointer 152, size := 1, bytes := 8, zero := [Value.pointer none], fl := false }
theorem i_149 : TabE Tryd.prog (149, t_149, false) := ⟨by kernel_rfl, fun h => by simp at h⟩
def t_150 : TyD := { und := TypeDesc.slice 5, size := 1, bytes := 24, zero := [Value.slice none 0 0], fl := false }
theorem i_150 : TabE Tryd.prog (150, t_150, false) := ⟨by kernel_rfl, fun h => by simp at h⟩
def t_151 : TyD := { und := TypeDesc.struct #[{ name := "addr", type := 149, offset := 0, embedded := false, tag := "", pkgPath := "strings", byteOffset := 0 }, { name := "buf", type := 150, offset := 1, embedded := false, tag := "", pkgPath := "strings", byteOffset := 8 }], size := 2, bytes := 32, zero := [Value.pointer none, Value.slice none 0 0], fl := false }
theorem i_151 : TabE Tryd.prog (151, t_151, true) := ⟨by kernel_rfl, fun _ => by kernel_rfl⟩
def t_152 : TyD := { und := TypeDesc.struct #[{ name := "addr", type := 149, offset := 0, embedded := false, tag := "", pkgPath := "strings", byteOffset := 0 }, { name := "buf", type := 150, offset := 1, embedded := false, tag := "", pkgPath := "strings", byteOffset := 8 }], size := 2, bytes := 32, zero := [Value.pointer none, Value.slice none 0 0], fl := false }
theorem i_152 : TabE Tryd.prog (152, t_152, true) := ⟨by kernel_rfl, fun _ => by kernel_rfl⟩
def t_153 : TyD := { und := TypeDesc.func #[3] #[] false, size := 1, bytes := 8, zero := [Value.nilFunc], fl := false }
theorem i_153 : TabE Tryd.prog (153, t_153, false) := ⟨by kernel_rfl, fun h => by simp at h⟩
def t_157 : TyD := { und := TypeDesc.func #[9] #[3, 155] false, size := 1, bytes := 8, zero := [Value.nilFunc], fl := false }
theorem i_157 : TabE Tryd.prog (157, t_157, false) := ⟨by kernel_rfl, fun h => by simp at h⟩
def t_158 : TyD := { und := TypeDesc.func #[] #[9] false, size := 1, bytes := 8, zero := [Value.nilFunc], fl := false }
theorem i_158 : TabE Tryd.prog (158, t_158, false) := ⟨by kernel_rfl, fun h => by simp at h⟩
def t_159 : TyD := { und := TypeDesc.func #[2, 3] #[9] false, size := 1, bytes := 8, zero := [Value.nilFunc], fl := false }
theorem i_159 : TabE Tryd.prog (159, t_159, false) := ⟨by kernel_rfl, fun h => by simp at h⟩
def t_160 : TyD := { und := TypeDesc.func #[64] #[4] false, size := 1, bytes := 8, zero := [Value.nilFunc], fl := false }
theorem i_160 : TabE Tryd.prog (160, t_160, false) := ⟨by kernel_rfl, fun h => by simp at h⟩
def t_161 : TyD := { und := TypeDesc.func #[162] #[4] false, size := 1, bytes := 8, zero := [Value.nilFunc], fl := false }
theorem i_161 : TabE Tryd.prog (161, t_161, false) := ⟨by kernel_rfl, fun h => by simp at h⟩
def t_162 : TyD := { und := TypeDesc.pointer 42, size := 1, bytes := 8, zero := [Value.pointer none], fl := false }
theorem i_162 : TabE Tryd.prog (162, t_162, false) := ⟨by kernel_rfl, fun h => by simp at h⟩
def t_163 : TyD := { und := TypeDesc.func #[162] #[9] false, size := 1, bytes := 8, zero := [Value.nilFunc], fl := false }
theorem i_163 : TabE Tryd.prog (163, t_163, false) := ⟨by kernel_rfl, fun h => by simp at h⟩
def t_164 : TyD := { und := TypeDesc.func #[64, 165] #[4] false, size := 1, bytes := 8, zero := [Value.nilFunc], fl := false }
theorem i_164 : TabE Tryd.prog (164, t_164, false) := ⟨by kernel_rfl, fun h => by simp at h⟩
def t_165 : TyD := { und := TypeDesc.func #[38] #[4] false, size := 1, bytes := 8, zero := [Value.nilFunc], fl := false }
theorem i_165 : TabE Tryd.prog (165, t_165, false) := ⟨by kernel_rfl, fun h => by simp at h⟩
def t_166 : TyD := { und := TypeDesc.func #[38, 38] #[2] false, size := 1, bytes := 8, zero := [Value.nilFunc], fl := false }
theorem i_166 : TabE Tryd.prog (166, t_166, false) := ⟨by kernel_rfl, fun h => by simp at h⟩
def t_167 : TyD := { und := TypeDesc.func #[50, 168] #[4] false, size := 1, bytes := 8, zero := [Value.nilFunc], fl := false }
theorem i_167 : TabE Tryd.prog (167, t_167, false) := ⟨by kernel_rfl, fun h => by simp at h⟩
def t_168 : TyD := { und := TypeDesc.pointer 108, size := 1, bytes := 8, zero := [Value.pointer none], fl := false }
theorem i_168 : TabE Tryd.prog (168, t_168, false) := ⟨by kernel_rfl, fun h => by simp at h⟩
def t_169 : TyD := { und := TypeDesc.func #[50, 170] #[4] false, size := 1, bytes := 8, zero := [Value.nilFunc], fl := false }
theorem i_169 : TabE Tryd.prog (169, t_169, false) := ⟨by kernel_rfl, fun h => by simp at h⟩
def t_170 : TyD := { und := TypeDesc.func #[108] #[4] false, size := 1, bytes := 8, zero := [Value.nilFunc], fl := false }
theorem i_170 : TabE Tryd.prog (170, t_170, false) := ⟨by kernel_rfl, fun h => by simp at h⟩
def t_171 : TyD := { und := TypeDesc.func #[2] #[4] false, size := 1, bytes := 8, zero := [Value.nilFunc], fl := false }
theorem i_171 : TabE Tryd.prog (171, t_171, false) := ⟨by kernel_rfl, fun h => by simp at h⟩
def t_172 : TyD := { und := TypeDesc.func #[54, 3] #[3] false, size := 1, bytes := 8, zero := [Value.nilFunc], fl := false }
theorem i_172 : TabE Tryd.prog (172, t_172, false) := ⟨by kernel_rfl, fun h => by simp at h⟩
def t_173 : TyD := { und := TypeDesc.func #[175, 3] #[3] false, size := 1, bytes := 8, zero := [Value.nilFunc], fl := false }
theorem i_173 : TabE Tryd.prog (173, t_173, false) := ⟨by kernel_rfl, fun h => by simp at h⟩
def t_174 : TyD := { und := TypeDesc.struct #[{ name := "Name", type := 9, offset := 0, embedded := false, tag := "", pkgPath := "", byteOffset := 0 }, { name := "Length", type := 30, offset := 1, embedded := false, tag := "", pkgPath := "", byteOffset := 16 }, { name := "Grows", type := 30, offset := 3, embedded := false, tag := "", pkgPath := "", byteOffset := 32 }], size := 5, bytes := 48, zero := [Value.string ⟨#[]⟩, Value.int IntKind.i64 0, Value.int IntKind.i64 0, Value.int IntKind.i64 0, Value.int IntKind.i64 0], fl := true }
theorem i_174 : TabE Tryd.prog (174, t_174, true) := ⟨by kernel_rfl, fun _ => by kernel_rfl⟩
def t_175 : TyD := { und := TypeDesc.struct #[{ name := "Name", type := 9, offset := 0, embedded := false, tag := "", pkgPath := "", byteOffset := 0 }, { name := "Length", type := 30, offset := 1, embedded := false, tag := "", pkgPath := "", byteOffset := 16 }, { name := "Grows", type := 30, offset := 3, embedded := false, tag := "", pkgPath := "", byteOffset := 32 }], size := 5, bytes := 48, zero := [Value.string ⟨#[]⟩, Value.int IntKind.i64 0, Value.int IntKind.i64 0, Value.int IntKind.i64 0, Value.int IntKind.i64 0], fl := true }
theorem i_175 : TabE Tryd.prog (175, t_175, true) := ⟨by kernel_rfl, fun _ => by kernel_rfl⟩
def t_176 : TyD := { und := TypeDesc.func #[177] #[4] false, size := 1, bytes := 8, zero := [Value.nilFunc], fl := false }
theorem i_176 : TabE Tryd.prog (176, t_176, false) := ⟨by kernel_rfl, fun h => by simp at h⟩
def t_177 : TyD := { und := TypeDesc.pointer 66, size := 1, bytes := 8, zero := [Value.pointer none], fl := false }
theorem i_177 : TabE Tryd.prog (177, t_177, false) := ⟨by kernel_rfl, fun h => by simp at h⟩
def t_178 : TyD := { und := TypeDesc.func #[179] #[4] false, size := 1, bytes := 8, zero := [Value.nilFunc], fl := false }
theorem i_178 : TabE Tryd.prog (178, t_178, false) := ⟨by kernel_rfl, fun h => by simp at h⟩
def t_179 : TyD := { und := TypeDesc.pointer 67, size := 1, bytes := 8, zero := [Value.pointer none], fl := false }
theorem i_179 : TabE Tryd.prog (179, t_179, false) := ⟨by kernel_rfl, fun h => by simp at h⟩
def t_180 : TyD := { und := TypeDesc.pointer 123, size := 1, bytes := 8, zero := [Value.pointer none], fl := false }
theorem i_180 : TabE Tryd.prog (180, t_180, false) := ⟨by kernel_rfl, fun h => by simp at h⟩
def t_181 : TyD := { und := TypeDesc.func #[38, 2] #[4] false, size := 1, bytes := 8, zero := [Value.nilFunc], fl := false }
theorem i_181 : TabE Tryd.prog (181, t_181, false) := ⟨by kernel_rfl, fun h => by simp at h⟩
def t_182 : TyD := { und := TypeDesc.func #[177] #[9] false, size := 1, bytes := 8, zero := [Value.nilFunc], fl := false }
theorem i_182 : TabE Tryd.prog (182, t_182, false) := ⟨by kernel_rfl, fun h => by simp at h⟩
def t_183 : TyD := { und := TypeDesc.func #[54] #[64] false, size := 1, bytes := 8, zero := [Value.nilFunc], fl := false }
theorem i_183 : TabE Tryd.prog (183, t_183, false) := ⟨by kernel_rfl, fun h => by simp at h⟩
def t_184 : TyD := { und := TypeDesc.func #[175] #[123] false, size := 1, bytes := 8, zero := [Value.nilFunc], fl := false }
theorem i_184 : TabE Tryd.prog (184, t_184, false) := ⟨by kernel_rfl, fun h => by simp at h⟩
def t_185 : TyD := { und := TypeDesc.func #[68, 186] #[4] false, size := 1, bytes := 8, zero := [Value.nilFunc], fl := false }
theorem i_185 : TabE Tryd.prog (185, t_185, false) := ⟨by kernel_rfl, fun h => by simp at h⟩
def t_186 : TyD := { und := TypeDesc.func #[123] #[4] false, size := 1, bytes := 8, zero := [Value.nilFunc], fl := false }
theorem i_186 : TabE Tryd.prog (186, t_186, false) := ⟨by kernel_rfl, fun h => by simp at h⟩
def t_187 : TyD := { und := TypeDesc.func #[2] #[38] false, size := 1, bytes := 8, zero := [Value.nilFunc], fl := false }
theorem i_187 : TabE Tryd.prog (187, t_187, false) := ⟨by kernel_rfl, fun h => by simp at h⟩
def t_188 : TyD := { und := TypeDesc.func #[66] #[4] false, size := 1, bytes := 8, zero := [Value.nilFunc], fl := false }
theorem i_188 : TabE Tryd.prog (188, t_188, false) := ⟨by kernel_rfl, fun h => by simp at h⟩
def t_189 : TyD := { und := TypeDesc.func #[67] #[4] false, size := 1, bytes := 8, zero := [Value.nilFunc], fl := false }
theorem i_189 : TabE Tryd.prog (189, t_189, false) := ⟨by kernel_rfl, fun h => by simp at h⟩
def t_190 : TyD := { und := TypeDesc.func #[64, 64] #[4] false, size := 1, bytes := 8, zero := [Value.nilFunc], fl := false }
theorem i_190 : TabE Tryd.prog (190, t_190, false) := ⟨by kernel_rfl, fun h => by simp at h⟩
def t_191 : TyD := { und := TypeDesc.func #[123, 123] #[4] false, size := 1, bytes := 8, zero := [Value.nilFunc], fl := false }
theorem i_191 : TabE Tryd.prog (191, t_191, false) := ⟨by kernel_rfl, fun h => by simp at h⟩
def t_192 : TyD := { und := TypeDesc.func #[9, 9, 3, 3] #[90] false, size := 1, bytes := 8, zero := [Value.nilFunc], fl := false }
theorem i_192 : TabE Tryd.prog (192, t_192, false) := ⟨by kernel_rfl, fun h => by simp at h⟩
def t_194 : TyD := { und := TypeDesc.func #[9, 3, 3] #[2, 155] false, size := 1, bytes := 8, zero := [Value.nilFunc], fl := false }
theorem i_194 : TabE Tryd.prog (194, t_194, false) := ⟨by kernel_rfl, fun h => by simp at h⟩
def t_196 : TyD := { und := TypeDesc.func #[9] #[38, 2] false, size := 1, bytes := 8, zero := [Value.nilFunc], fl := false }
theorem i_196 : TabE Tryd.prog (196, t_196, false) := ⟨by kernel_rfl, fun h => by simp at h⟩
def t_198 : TyD := { und := TypeDesc.func #[9, 9] #[9, 9, 4] false, size := 1, bytes := 8, zero := [Value.nilFunc], fl := false }
theorem i_198 : TabE Tryd.prog (198, t_198, false) := ⟨by kernel_rfl, fun h => by simp at h⟩
def t_199 : TyD := { und := TypeDesc.func #[201] #[4] false, size := 1, bytes := 8, zero := [Value.nilFunc], fl := false }
theorem i_199 : TabE Tryd.prog (199, t_199, false) := ⟨by kernel_rfl, fun h => by simp at h⟩
def t_200 : TyD := { und := TypeDesc.struct #[{ name := "Bias", type := 82, offset := 0, embedded := false, tag := "", pkgPath := "", byteOffset := 0 }, { name := "Unit", type := 82, offset := 1, embedded := false, tag := "", pkgPath := "", byteOffset := 2 }, { name := "Up", type := 4, offset := 2, embedded := false, tag := "", pkgPath := "", byteOffset := 4 }], size := 3, bytes := 6, zero := [Value.int IntKind.i16 0, Value.int IntKind.i16 0, Value.bool false], fl := true }
theorem i_200 : TabE Tryd.prog (200, t_200, true) := ⟨by kernel_rfl, fun _ => by kernel_rfl⟩
def t_201 : TyD := { und := TypeDesc.struct #[{ name := "Bias", type := 82, offset := 0, embedded := false, tag := "", pkgPath := "", byteOffset := 0 }, { name := "Unit", type := 82, offset := 1, embedded := false, tag := "", pkgPath := "", byteOffset := 2 }, { name := "Up", type := 4, offset := 2, embedded := false, tag := "", pkgPath := "", byteOffset := 4 }], size := 3, bytes := 6, zero := [Value.int IntKind.i16 0, Value.int IntKind.i16 0, Value.bool false], fl := true }
theorem i_201 : TabE Tryd.prog (201, t_201, true) := ⟨by kernel_rfl, fun _ => by kernel_rfl⟩
def t_202 : TyD := { und := TypeDesc.func #[146] #[201] false, size := 1, bytes := 8, zero := [Value.nilFunc], fl := false }
theorem i_202 : TabE Tryd.prog (202, t_202, false) := ⟨by kernel_rfl, fun h => by simp at h⟩
def t_203 : TyD := { und := TypeDesc.func #[25, 148] #[3] false, size := 1, bytes := 8, zero := [Value.nilFunc], fl := false }
theorem i_203 : TabE Tryd.prog (203, t_203, false) := ⟨by kernel_rfl, fun h => by simp at h⟩
def t_204 : TyD := { und := TypeDesc.func #[] #[201] false, size := 1, bytes := 8, zero := [Value.nilFunc], fl := false }
theorem i_204 : TabE Tryd.prog (204, t_204, false) := ⟨by kernel_rfl, fun h => by simp at h⟩
def t_205 : TyD := { und := TypeDesc.pointer 5, size := 1, bytes := 8, zero := [Value.pointer none], fl := false }
theorem i_205 : TabE Tryd.prog (205, t_205, false) := ⟨by kernel_rfl, fun h => by simp at h⟩
def t_206 : TyD := { und := TypeDesc.func #[64, 165] #[3] false, size := 1, bytes := 8, zero := [Value.nilFunc], fl := false }
theorem i_206 : TabE Tryd.prog (206, t_206, false) := ⟨by kernel_rfl, fun h => by simp at h⟩
def t_207 : TyD := { und := TypeDesc.func #[2, 2] #[2] false, size := 1, bytes := 8, zero := [Value.nilFunc], fl := false }
theorem i_207 : TabE Tryd.prog (207, t_207, false) := ⟨by kernel_rfl, fun h => by simp at h⟩
def t_208 : TyD := { und := TypeDesc.func #[168, 2] #[4] false, size := 1, bytes := 8, zero := [Value.nilFunc], fl := false }
theorem i_208 : TabE Tryd.prog (208, t_208, false) := ⟨by kernel_rfl, fun h => by simp at h⟩
def t_209 : TyD := { und := TypeDesc.func #[50, 170] #[3] false, size := 1, bytes := 8, zero := [Value.nilFunc], fl := false }
theorem i_209 : TabE Tryd.prog (209, t_209, false) := ⟨by kernel_rfl, fun h => by simp at h⟩
def t_210 : TyD := { und := TypeDesc.func #[2] #[2] false, size := 1, bytes := 8, zero := [Value.nilFunc], fl := false }
theorem i_210 : TabE Tryd.prog (210, t_210, false) := ⟨by kernel_rfl, fun h => by simp at h⟩
def t_211 : TyD := { und := TypeDesc.func #[177, 2] #[38, 2] false, size := 1, bytes := 8, zero := [Value.nilFunc], fl := false }
theorem i_211 : TabE Tryd.prog (211, t_211, false) := ⟨by kernel_rfl, fun h => by simp at h⟩
def t_212 : TyD := { und := TypeDesc.func #[68, 186] #[3] false, size := 1, bytes := 8, zero := [Value.nilFunc], fl := false }
theorem i_212 : TabE Tryd.prog (212, t_212, false) := ⟨by kernel_rfl, fun h => by simp at h⟩
def t_213 : TyD := { und := TypeDesc.pointer 215, size := 1, bytes := 8, zero := [Value.pointer none], fl := false }
theorem i_213 : TabE Tryd.prog (213, t_213, false) := ⟨by kernel_rfl, fun h => by simp at h⟩
def t_214 : TyD := { und := TypeDesc.struct #[{ name := "bad", type := 4, offset := 0, embedded := false, tag := "", pkgPath := "loop.example/g01254/impl", byteOffset := 0 }], size := 1, bytes := 1, zero := [Value.bool false], fl := true }
theorem i_214 : TabE Tryd.prog (214, t_214, true) := ⟨by kernel_rfl, fun _ => by kernel_rfl⟩
def t_215 : TyD := { und := TypeDesc.struct #[{ name := "bad", type := 4, offset := 0, embedded := false, tag := "", pkgPath := "loop.example/g01254/impl", byteOffset := 0 }], size := 1, bytes := 1, zero := [Value.bool false], fl := true }
theorem i_215 : TabE Tryd.prog (215, t_215, true) := ⟨by kernel_rfl, fun _ => by kernel_rfl⟩
def t_216 : TyD := { und := TypeDesc.func #[38] #[38] false, size := 1, bytes := 8, zero := [Value.nilFunc], fl := false }
theorem i_216 : TabE Tryd.prog (216, t_216, false) := ⟨by kernel_rfl, fun h => by simp at h⟩
def t_217 : TyD := { und := TypeDesc.func #[38, 38] #[38] false, size := 1, bytes := 8, zero := [Value.nilFunc], fl := false }
theorem i_217 : TabE Tryd.prog (217, t_217, false) := ⟨by kernel_rfl, fun h => by simp at h⟩
def t_218 : TyD := { und := TypeDesc.func #[9, 3] #[90] false, size := 1, bytes := 8, zero := [Value.nilFunc], fl := false }
theorem i_218 : TabE Tryd.prog (218, t_218, false) := ⟨by kernel_rfl, fun h => by simp at h⟩
def t_219 : TyD := { und := TypeDesc.func #[9, 9] #[3] false, size := 1, bytes := 8, zero := [Value.nilFunc], fl := false }
theorem i_219 : TabE Tryd.prog (219, t_219, false) := ⟨by kernel_rfl, fun h => by simp at h⟩
def t_220 : TyD := { und := TypeDesc.func #[9, 9, 3, 3, 155] #[155] false, size := 1, bytes := 8, zero := [Value.nilFunc], fl := false }
theorem i_220 : TabE Tryd.prog (220, t_220, false) := ⟨by kernel_rfl, fun h => by simp at h⟩
def t_221 : TyD := { und := TypeDesc.unsafePointer, size := 1, bytes := 8, zero := [Value.pointer none], fl := false }
theorem i_221 : TabE Tryd.prog (221, t_221, false) := ⟨by kernel_rfl, fun h => by simp at h⟩
def t_222 : TyD := { und := TypeDesc.func #[221] #[221] false, size := 1, bytes := 8, zero := [Value.nilFunc], fl := false }
theorem i_222 : TabE Tryd.prog (222, t_222, false) := ⟨by kernel_rfl, fun h => by simp at h⟩
def t_223 : TyD := { und := TypeDesc.func #[3] #[150] false, size := 1, bytes := 8, zero := [Value.nilFunc], fl := false }
theorem i_223 : TabE Tryd.prog (223, t_223, false) := ⟨by kernel_rfl, fun h => by simp at h⟩
def t_224 : TyD := { und := TypeDesc.array 24 5, size := 24, bytes := 24, zero := [Value.int IntKind.u8 0, Value.int IntKind.u8 0, Value.int IntKind.u8 0, Value.int IntKind.u8 0, Value.int IntKind.u8 0, Value.int IntKind.u8 0, Value.int IntKind.u8 0, Value.int IntKind.u8 0, Value.int IntKind.u8 0, Value.int IntKind.u8 0, Value.int IntKind.u8 0, Value.int IntKind.u8 0, Value.int IntKind.u8 0, Value.int IntKind.u8 0, Value.int IntKind.u8 0, Value.int IntKind.u8 0, Value.int IntKind.u8 0, Value.int IntKind.u8 0, Value.int IntKind.u8 0, Value.int IntKind.u8 0, Value.int IntKind.u8 0, Value.int IntKind.u8 0, Value.int IntKind.u8 0, Value.int IntKind.u8 0], fl := true }
theorem i_224 : TabE Tryd.prog (224, t_224, false) := ⟨by kernel_rfl, fun h => by simp at h⟩
def t_225 : TyD := { und := TypeDesc.int IntKind.u64, size := 1, bytes := 8, zero := [Value.int IntKind.u64 0], fl := true }
theorem i_225 : TabE Tryd.prog (225, t_225, false) := ⟨by kernel_rfl, fun h => by simp at h⟩
def t_226 : TyD := { und := TypeDesc.func #[225] #[3] false, size := 1, bytes := 8, zero := [Value.nilFunc], fl := false }
theorem i_226 : TabE Tryd.prog (226, t_226, false) := ⟨by kernel_rfl, fun h => by simp at h⟩
def t_227 : TyD := { und := TypeDesc.func #[150, 225] #[] false, size := 1, bytes := 8, zero := [Value.nilFunc], fl := false }
theorem i_227 : TabE Tryd.prog (227, t_227, false) := ⟨by kernel_rfl, fun h => by simp at h⟩
def t_229 : TyD := { und := TypeDesc.func #[150, 225, 3, 4, 4] #[150, 9] false, size := 1, bytes := 8, zero := [Value.nilFunc], fl := false }
theorem i_229 : TabE Tryd.prog (229, t_229, false) := ⟨by kernel_rfl, fun h => by simp at h⟩
def t_230 : TyD := { und := TypeDesc.func #[38, 38] #[38, 2] false, size := 1, bytes := 8, zero := [Value.nilFunc], fl := false }
theorem i_230 : TabE Tryd.prog (230, t_230, false) := ⟨by kernel_rfl, fun h => by simp at h⟩
def t_231 : TyD := { und := TypeDesc.func #[2, 2] #[38] false, size := 1, bytes := 8, zero := [Value.nilFunc], fl := false }
theorem i_231 : TabE Tryd.prog (231, t_231, false) := ⟨by kernel_rfl, fun h => by simp at h⟩
def t_232 : TyD := { und := TypeDesc.func #[9] #[3] false, size := 1, bytes := 8, zero := [Value.nilFunc], fl := false }
theorem i_232 : TabE Tryd.prog (232, t_232, false) := ⟨by kernel_rfl, fun h => by simp at h⟩
def t_234 : TyD := { und := TypeDesc.func #[9] #[21, 3] false, size := 1, bytes := 8, zero := [Value.nilFunc], fl := false }
theorem i_234 : TabE Tryd.prog (234, t_234, false) := ⟨by kernel_rfl, fun h => by simp at h⟩
def t_235 : TyD := { und := TypeDesc.func #[9, 5] #[3] false, size := 1, bytes := 8, zero := [Value.nilFunc], fl := false }
theorem i_235 : TabE Tryd.prog (235, t_235, false) := ⟨by kernel_rfl, fun h => by simp at h⟩
def t_236 : TyD := { und := TypeDesc.int IntKind.i64, size := 1, bytes := 8, zero := [Value.int IntKind.i64 0], fl := true }
theorem i_236 : TabE Tryd.prog (236, t_236, false) := ⟨by kernel_rfl, fun h => by simp at h⟩
def t_238 : TyD := { und := TypeDesc.func #[9, 3, 3] #[225, 155] false, size := 1, bytes := 8, zero := [Value.nilFunc], fl := false }
theorem i_238 : TabE Tryd.prog (238, t_238, false) := ⟨by kernel_rfl, fun h => by simp at h⟩
def t_239 : TyD := { und := TypeDesc.int IntKind.u64, size := 1, bytes := 8, zero := [Value.int IntKind.u64 0], fl := true }
theorem i_239 : TabE Tryd.prog (239, t_239, false) := ⟨by kernel_rfl, fun h => by simp at h⟩
def t_240 : TyD := { und := TypeDesc.pointer 256, size := 1, bytes := 8, zero := [Value.pointer none], fl := false }
theorem i_240 : TabE Tryd.prog (240, t_240, false) := ⟨by kernel_rfl, fun h => by simp at h⟩
def t_241 : TyD := { und := TypeDesc.func #[9, 9] #[240] false, size := 1, bytes := 8, zero := [Value.nilFunc], fl := false }
theorem i_241 : TabE Tryd.prog (241, t_241, false) := ⟨by kernel_rfl, fun h => by simp at h⟩
def t_242 : TyD := { und := TypeDesc.func #[9, 9, 3] #[240] false, size := 1, bytes := 8, zero := [Value.nilFunc], fl := false }
theorem i_242 : TabE Tryd.prog (242, t_242, false) := ⟨by kernel_rfl, fun h => by simp at h⟩
def t_243 : TyD := { und := TypeDesc.func #[3] #[3] false, size := 1, bytes := 8, zero := [Value.nilFunc], fl := false }
theorem i_243 : TabE Tryd.prog (243, t_243, false) := ⟨by kernel_rfl, fun h => by simp at h⟩
def t_244 : TyD := { und := TypeDesc.func #[4] #[3] false, size := 1, bytes := 8, zero := [Value.nilFunc], fl := false }
theorem i_244 : TabE Tryd.prog (244, t_244, false) := ⟨by kernel_rfl, fun h => by simp at h⟩
def t_245 : TyD := { und := TypeDesc.array 20 225, size := 20, bytes := 160, zero := [Value.int IntKind.u64 0, Value.int IntKind.u64 0, Value.int IntKind.u64 0, Value.int IntKind.u64 0, Value.int IntKind.u64 0, Value.int IntKind.u64 0, Value.int IntKind.u64 0, Value.int IntKind.u64 0, Value.int IntKind.u64 0, Value.int IntKind.u64 0, Value.int IntKind.u64 0, Value.int IntKind.u64 0, Value.int IntKind.u64 0, Value.int IntKind.u64 0, Value.int IntKind.u64 0, Value.int IntKind.u64 0, Value.int IntKind.u64 0, Value.int IntKind.u64 0, Value.int IntKind.u64 0, Value.int IntKind.u64 0], fl := true }
theorem i_245 : TabE Tryd.prog (245, t_245, false) := ⟨by kernel_rfl, fun h => by simp at h⟩
def t_246 : TyD := { und := TypeDesc.int IntKind.u32, size := 1, bytes := 4, zero := [Value.int IntKind.u32 0], fl := true }
theorem i_246 : TabE Tryd.prog (246, t_246, false) := ⟨by kernel_rfl, fun h => by simp at h⟩
def t_247 : TyD := { und := TypeDesc.array 65 5, size := 65, bytes := 65, zero := [Value.int IntKind.u8 0, Value.int IntKind.u8 0, Value.int IntKind.u8 0, Value.int IntKind.u8 0, Value.int IntKind.u8 0, Value.int IntKind.u8 0, Value.int IntKind.u8 0, Value.int IntKind.u8 0, Value.int IntKind.u8 0, Value.int IntKind.u8 0, Value.int IntKind.u8 0, Value.int IntKind.u8 0, Value.int IntKind.u8 0, Value.int IntKind.u8 0, Value.int IntKind.u8 0, Value.int IntKind.u8 0, Value.int IntKind.u8 0, Value.int IntKind.u8 0, Value.int IntKind.u8 0, Value.int IntKind.u8 0, Value.int IntKind.u8 0, Value.int IntKind.u8 0, Value.int IntKind.u8 0, Value.int IntKind.u8 0, Value.int IntKind.u8 0, Value.int IntKind.u8 0, Value.int IntKind.u8 0, Value.int IntKind.u8 0, Value.int IntKind.u8 0, Value.int IntKind.u8 0, Value.int IntKind.u8 0, Value.int IntKind.u8 0, Value.int IntKind.u8 0, Value.int IntKind.u8 0, Value.int IntKind.u8 0, Value.int IntKind.u8 0, Value.int IntKind.u8 0, Value.int IntKind.u8 0, Value.int IntKind.u8 0, Value.int IntKind.u8 0, Value.int IntKind.u8 0, Value.int IntKind.u8 0, Value.int IntKind.u8 0, Value.int IntKind.u8 0, Value.int IntKind.u8 0, Value.int IntKind.u8 0, Value.int IntKind.u8 0, Value.int IntKind.u8 0, Value.int IntKind.u8 0, Value.int IntKind.u8 0, Value.int IntKind.u8 0, Value.int IntKind.u8 0, Value.int IntKind.u8 0, Value.int IntKind.u8 0, Value.int IntKind.u8 0, Value.int IntKind.u8 0, Value.int IntKind.u8 0, Value.int IntKind.u8 0, Value.int IntKind.u8 0, Value.int IntKind.u8 0, Value.int IntKind.u8 0, Value.int IntKind.u8 0, Value.int IntKind.u8 0, Value.int IntKind.u8 0, Value.int IntKind.u8 0], fl := true }
theorem i_247 : TabE Tryd.prog (247, t_247, false) := ⟨by kernel_rfl, fun h => by simp at h⟩
def t_248 : TyD := { und := TypeDesc.func #[3] #[4] false, size := 1, bytes := 8, zero := [Value.nilFunc], fl := false }
theorem i_248 : TabE Tryd.prog (248, t_248, false) := ⟨by kernel_rfl, fun h => by simp at h⟩
def t_249 : TyD := { und := TypeDesc.func #[239] #[3] false, size := 1, bytes := 8, zero := [Value.nilFunc], fl := false }
theorem i_249 : TabE Tryd.prog (249, t_249, false) := ⟨by kernel_rfl, fun h => by simp at h⟩
def t_250 : TyD := { und := TypeDesc.func #[2, 2] #[38, 2] false, size := 1, bytes := 8, zero := [Value.nilFunc], fl := false }
theorem i_250 : TabE Tryd.prog (250, t_250, false) := ⟨by kernel_rfl, fun h => by simp at h⟩
def t_251 : TyD := { und := TypeDesc.func #[2, 2] #[38, 4] false, size := 1, bytes := 8, zero := [Value.nilFunc], fl := false }
theorem i_251 : TabE Tryd.prog (251, t_251, false) := ⟨by kernel_rfl, fun h => by simp at h⟩
def t_252 : TyD := { und := TypeDesc.func #[] #[38] false, size := 1, bytes := 8, zero := [Value.nilFunc], fl := false }
theorem i_252 : TabE Tryd.prog (252, t_252, false) := ⟨by kernel_rfl, fun h => by simp at h⟩
def t_253 : TyD := { und := TypeDesc.func #[5] #[5] false, size := 1, bytes := 8, zero := [Value.nilFunc], fl := false }
theorem i_253 : TabE Tryd.prog (253, t_253, false) := ⟨by kernel_rfl, fun h => by simp at h⟩
def t_254 : TyD := { und := TypeDesc.func #[9] #[9] false, size := 1, bytes := 8, zero := [Value.nilFunc], fl := false }
theorem i_254 : TabE Tryd.prog (254, t_254, false) := ⟨by kernel_rfl, fun h => by simp at h⟩
def t_255 : TyD := { und := TypeDesc.struct #[{ name := "Func", type := 9, offset := 0, embedded := false, tag := "", pkgPath := "", byteOffset := 0 }, { name := "Num", type := 9, offset := 1, embedded := false, tag := "", pkgPath := "", byteOffset := 16 }, { name := "Err", type := 155, offset := 2, embedded := false, tag := "", pkgPath := "", byteOffset := 32 }], size := 3, bytes := 48, zero := [Value.string ⟨#[]⟩, Value.string ⟨#[]⟩, Value.nilIface], fl := false }
theorem i_255 : TabE Tryd.prog (255, t_255, false) := ⟨by kernel_rfl, fun h => by simp at h⟩
def t_256 : TyD := { und := TypeDesc.struct #[{ name := "Func", type := 9, offset := 0, embedded := false, tag := "", pkgPath := "", byteOffset := 0 }, { name := "Num", type := 9, offset := 1, embedded := false, tag := "", pkgPath := "", byteOffset := 16 }, { name := "Err", type := 155, offset := 2, embedded := false, tag := "", pkgPath := "", byteOffset := 32 }], size := 3, bytes := 48, zero := [Value.string ⟨#[]⟩, Value.string ⟨#[]⟩, Value.nilIface], fl := false }
theorem i_256 : TabE Tryd.prog (256, t_256, false) := ⟨by kernel_rfl, fun h => by simp at h⟩
def t_257 : TyD := { und := TypeDesc.func #[9] #[155] false, size := 1, bytes := 8, zero := [Value.nilFunc], fl := false }
theorem i_257 : TabE Tryd.prog (257, t_257, false) := ⟨by kernel_rfl, fun h => by simp at h⟩
def t_258 : TyD := { und := TypeDesc.func #[246] #[3] false, size := 1, bytes := 8, zero := [Value.nilFunc], fl := false }
theorem i_258 : TabE Tryd.prog (258, t_258, false) := ⟨by kernel_rfl, fun h => by simp at h⟩
def t_259 : TyD := { und := TypeDesc.array 256 5, size := 256, bytes := 256, zero := [Value.int IntKind.u8 0, Value.int IntKind.u8 0, Value.int IntKind.u8 0, Value.int IntKind.u8 0, Value.int IntKind.u8 0, Value.int IntKind.u8 0, Value.int IntKind.u8 0, Value.int IntKind.u8 0, Value.int IntKind.u8 0, Value.int IntKind.u8 0, Value.int IntKind.u8 0, Value.int IntKind.u8 0, Value.int IntKind.u8 0, Value.int IntKind.u8 0, Value.int IntKind.u8 0, Value.int IntKind.u8 0, Value.int IntKind.u8 0, Value.int IntKind.u8 0, Value.int IntKind.u8 0, Value.int IntKind.u8 0, Value.int IntKind.u8 0, Value.int IntKind.u8 0, Value.int IntKind.u8 0, Value.int IntKind.u8 0, Value.int IntKind.u8 0, Value.int IntKind.u8 0, Value.int IntKind.u8 0, Value.int IntKind.u8 0, Value.int IntKind.u8 0, Value.int IntKind.u8 0, Value.int IntKind.u8 0, Value.int IntKind.u8 0, Value.int IntKind.u8 0, Value.int IntKind.u8 0, Value.int IntKind.u8 0, Value.int IntKind.u8 0, Value.int IntKind.u8 0, Value.int IntKind.u8 0, Value.int IntKind.u8 0, Value.int IntKind.u8 0, Value.int IntKind.u8 0, Value.int IntKind.u8 0, Value.int IntKind.u8 0, Value.int IntKind.u8 0, Value.int IntKind.u8 0, Value.int IntKind.u8 0, Value.int IntKind.u8 0, Value.int IntKind.u8 0, Value.int IntKind.u8 0, Value.int IntKind.u8 0, Value.int IntKind.u8 0, Value.int IntKind.u8 0, Value.int IntKind.u8 0, Value.int IntKind.u8 0, Value.int IntKind.u8 0, Value.int IntKind.u8 0, Value.int IntKind.u8 0, Value.int IntKind.u8 0, Value.int IntKind.u8 0, Value.int IntKind.u8 0, Value.int IntKind.u8 0, Value.int IntKind.u8 0, Value.int IntKind.u8 0, Value.int IntKind.u8 0, Value.int IntKind.u8 0, Value.int IntKind.u8 0, Value.int IntKind.u8 0, Value.int IntKind.u8 0, Value.int IntKind.u8 0, Value.int IntKind.u8 0, Value.int IntKind.u8 0, Value.int IntKind.u8 0, Value.int IntKind.u8 0, Value.int IntKind.u8 0, Value.int IntKind.u8 0, Value.int IntKind.u8 0, Value.int IntKind.u8 0, Value.int IntKind.u8 0, Value.int IntKind.u8 0, Value.int IntKind.u8 0, Value.int IntKind.u8 0, Value.int IntKind.u8 0, Value.int IntKind.u8 0, Value.int IntKind.u8 0, Value.int IntKind.u8 0, Value.int IntKind.u8 0, Value.int IntKind.u8 0, Value.int IntKind.u8 0, Value.int IntKind.u8 0, Value.int IntKind.u8 0, Value.int IntKind.u8 0, Value.int IntKind.u8 0, Value.int IntKind.u8 0, Value.int IntKind.u8 0, Value.int IntKind.u8 0, Value.int IntKind.u8 0, Value.int IntKind.u8 0, Value.int IntKind.u8 0, Value.int IntKind.u8 0, Value.int IntKind.u8 0, Value.int IntKind.u8 0, Value.int IntKind.u8 0, Value.int IntKind.u8 0, Value.int IntKind.u8 0, Value.int IntKind.u8 0, Value.int IntKind.u8 0, Value.int IntKind.u8 0, Value.int IntKind.u8 0, Value.int IntKind.u8 0, Value.int IntKind.u8 0, Value.int IntKind.u8 0, Value.int IntKind.u8 0, Value.int IntKind.u8 0, Value.int IntKind.u8 0, Value.int IntKind.u8 0, Value.int IntKind.u8 0, Value.int IntKind.u8 0, Value.int IntKind.u8 0, Value.int IntKind.u8 0, Value.int IntKind.u8 0, Value.int IntKind.u8 0, Value.int IntKind.u8 0, Value.int IntKind.u8 0, Value.int IntKind.u8 0, Value.int IntKind.u8 0, Value.int IntKind.u8 0, Value.int IntKind.u8 0, Value.int IntKind.u8 0, Value.int IntKind.u8 0, Value.int IntKind.u8 0, Value.int IntKind.u8 0, Value.int IntKind.u8 0, Value.int IntKind.u8 0, Value.int IntKind.u8 0, Value.int IntKind.u8 0, Value.int IntKind.u8 0, Value.int IntKind.u8 0, Value.int IntKind.u8 0, Value.int IntKind.u8 0, Value.int IntKind.u8 0, Value.int IntKind.u8 0, Value.int IntKind.u8 0, Value.int IntKind.u8 0, Value.int IntKind.u8 0, Value.int IntKind.u8 0, Value.int IntKind.u8 0, Value.int IntKind.u8 0, Value.int IntKind.u8 0, Value.int IntKind.u8 0, Value.int IntKind.u8 0, Value.int IntKind.u8 0, Value.int IntKind.u8 0, Value.int IntKind.u8 0, Value.int IntKind.u8 0, Value.int IntKind.u8 0, Value.int IntKind.u8 0, Value.int IntKind.u8 0, Value.int IntKind.u8 0, Value.int IntKind.u8 0, Value.int IntKind.u8 0, Value.int IntKind.u8 0, Value.int IntKind.u8 0, Value.int IntKind.u8 0, Value.int IntKind.u8 0, Value.int IntKind.u8 0, Value.int IntKind.u8 0, Value.int IntKind.u8 0, Value.int IntKind.u8 0, Value.int IntKind.u8 0, Value.int IntKind.u8 0, Value.int IntKind.u8 0, Value.int IntKind.u8 0, Value.int IntKind.u8 0, Value.int IntKind.u8 0, Value.int IntKind.u8 0, Value.int IntKind.u8 0, Value.int IntKind.u8 0, Value.int IntKind.u8 0, Value.int IntKind.u8 0, Value.int IntKind.u8 0, Value.int IntKind.u8 0, Value.int IntKind.u8 0, Value.int IntKind.u8 0, Value.int IntKind.u8 0, Value.int IntKind.u8 0, Value.int IntKind.u8 0, Value.int IntKind.u8 0, Value.int IntKind.u8 0, Value.int IntKind.u8 0, Value.int IntKind.u8 0, Value.int IntKind.u8 0, Value.int IntKind.u8 0, Value.int IntKind.u8 0, Value.int IntKind.u8 0, Value.int IntKind.u8 0, Value.int IntKind.u8 0, Value.int IntKind.u8 0, Value.int IntKind.u8 0, Value.int IntKind.u8 0, Value.int IntKind.u8 0, Value.int IntKind.u8 0, Value.int IntKind.u8 0, Value.int IntKind.u8 0, Value.int IntKind.u8 0, Value.int IntKind.u8 0, Value.int IntKind.u8 0, Value.int IntKind.u8 0, Value.int IntKind.u8 0, Value.int IntKind.u8 0, Value.int IntKind.u8 0, Value.int IntKind.u8 0, Value.int IntKind.u8 0, Value.int IntKind.u8 0, Value.int IntKind.u8 0, Value.int IntKind.u8 0, Value.int IntKind.u8 0, Value.int IntKind.u8 0, Value.int IntKind.u8 0, Value.int IntKind.u8 0, Value.int IntKind.u8 0, Value.int IntKind.u8 0, Value.int IntKind.u8 0, Value.int IntKind.u8 0, Value.int IntKind.u8 0, Value.int IntKind.u8 0, Value.int IntKind.u8 0, Value.int IntKind.u8 0, Value.int IntKind.u8 0, Value.int IntKind.u8 0, Value.int IntKind.u8 0, Value.int IntKind.u8 0, Value.int IntKind.u8 0, Value.int IntKind.u8 0, Value.int IntKind.u8 0, Value.int IntKind.u8 0, Value.int IntKind.u8 0, Value.int IntKind.u8 0, Value.int IntKind.u8 0, Value.int IntKind.u8 0, Value.int IntKind.u8 0, Value.int IntKind.u8 0, Value.int IntKind.u8 0, Value.int IntKind.u8 0, Value.int IntKind.u8 0, Value.int IntKind.u8 0, Value.int IntKind.u8 0, Value.int IntKind.u8 0, Value.int IntKind.u8 0, Value.int IntKind.u8 0, Value.int IntKind.u8 0, Value.int IntKind.u8 0, Value.int IntKind.u8 0, Value.int IntKind.u8 0, Value.int IntKind.u8 0, Value.int IntKind.u8 0, Value.int IntKind.u8 0], fl := true }
theorem i_259 : TabE Tryd.prog (259, t_259, false) := ⟨by kernel_rfl, fun h => by simp at h⟩
def t_260 : TyD := { und := TypeDesc.struct #[{ name := "lo", type := 5, offset := 0, embedded := false, tag := "", pkgPath := "unicode/utf8", byteOffset := 0 }, { name := "hi", type := 5, offset := 1, embedded := false, tag := "", pkgPath := "unicode/utf8", byteOffset := 1 }], size := 2, bytes := 2, zero := [Value.int IntKind.u8 0, Value.int IntKind.u8 0], fl := true }
theorem i_260 : TabE Tryd.prog (260, t_260, true) := ⟨by kernel_rfl, fun _ => by kernel_rfl⟩
def t_261 : TyD := { und := TypeDesc.struct #[{ name := "lo", type := 5, offset := 0, embedded := false, tag := "", pkgPath := "unicode/utf8", byteOffset := 0 }, { name := "hi", type := 5, offset := 1, embedded := false, tag := "", pkgPath := "unicode/utf8", byteOffset := 1 }], size := 2, bytes := 2, zero := [Value.int IntKind.u8 0, Value.int IntKind.u8 0], fl := true }
theorem i_261 : TabE Tryd.prog (261, t_261, true) := ⟨by kernel_rfl, fun _ => by kernel_rfl⟩
def t_262 : TyD := { und := TypeDesc.array 16 261, size := 32, bytes := 32, zero := [Value.int IntKind.u8 0, Value.int IntKind.u8 0, Value.int IntKind.u8 0, Value.int IntKind.u8 0, Value.int IntKind.u8 0, Value.int IntKind.u8 0, Value.int IntKind.u8 0, Value.int IntKind.u8 0, Value.int IntKind.u8 0, Value.int IntKind.u8 0, Value.int IntKind.u8 0, Value.int IntKind.u8 0, Value.int IntKind.u8 0, Value.int IntKind.u8 0, Value.int IntKind.u8 0, Value.int IntKind.u8 0, Value.int IntKind.u8 0, Value.int IntKind.u8 0, Value.int IntKind.u8 0, Value.int IntKind.u8 0, Value.int IntKind.u8 0, Value.int IntKind.u8 0, Value.int IntKind.u8 0, Value.int IntKind.u8 0, Value.int IntKind.u8 0, Value.int IntKind.u8 0, Value.int IntKind.u8 0, Value.int IntKind.u8 0, Value.int IntKind.u8 0, Value.int IntKind.u8 0, Value.int IntKind.u8 0, Value.int IntKind.u8 0], fl := true }
theorem i_262 : TabE Tryd.prog (262, t_262, false) := ⟨by kernel_rfl, fun h => by simp at h⟩
def t_264 : TyD := { und := TypeDesc.func #[9] #[246, 246] false, size := 1, bytes := 8, zero := [Value.nilFunc], fl := false }
theorem i_264 : TabE Tryd.prog (264, t_264, false) := ⟨by kernel_rfl, fun h => by simp at h⟩
def t_265 : TyD := { und := TypeDesc.pointer 267, size := 1, bytes := 8, zero := [Value.pointer none], fl := false }
theorem i_265 : TabE Tryd.prog (265, t_265, false) := ⟨by kernel_rfl, fun h => by simp at h⟩
def t_266 : TyD := { und := TypeDesc.struct #[{ name := "s", type := 9, offset := 0, embedded := false, tag := "", pkgPath := "errors", byteOffset := 0 }], size := 1, bytes := 16, zero := [Value.string ⟨#[]⟩], fl := true }
theorem i_266 : TabE Tryd.prog (266, t_266, true) := ⟨by kernel_rfl, fun _ => by kernel_rfl⟩
def t_267 : TyD := { und := TypeDesc.struct #[{ name := "s", type := 9, offset := 0, embedded := false, tag := "", pkgPath := "errors", byteOffset := 0 }], size := 1, bytes := 16, zero := [Value.string ⟨#[]⟩], fl := true }
theorem i_267 : TabE Tryd.prog (267, t_267, true) := ⟨by kernel_rfl, fun _ => by kernel_rfl⟩
def t_268 : TyD := { und := TypeDesc.array 32 5, size := 32, bytes := 32, zero := [Value.int IntKind.u8 0, Value.int IntKind.u8 0, Value.int IntKind.u8 0, Value.int IntKind.u8 0, Value.int IntKind.u8 0, Value.int IntKind.u8 0, Value.int IntKind.u8 0, Value.int IntKind.u8 0, Value.int IntKind.u8 0, Value.int IntKind.u8 0, Value.int IntKind.u8 0, Value.int IntKind.u8 0, Value.int IntKind.u8 0, Value.int IntKind.u8 0, Value.int IntKind.u8 0, Value.int IntKind.u8 0, Value.int IntKind.u8 0, Value.int IntKind.u8 0, Value.int IntKind.u8 0, Value.int IntKind.u8 0, Value.int IntKind.u8 0, Value.int IntKind.u8 0, Value.int IntKind.u8 0, Value.int IntKind.u8 0, Value.int IntKind.u8 0, Value.int IntKind.u8 0, Value.int IntKind.u8 0, Value.int IntKind.u8 0, Value.int IntKind.u8 0, Value.int IntKind.u8 0, Value.int IntKind.u8 0, Value.int IntKind.u8 0], fl := true }
theorem i_268 : TabE Tryd.prog (268, t_268, false) := ⟨by kernel_rfl, fun h => by simp at h⟩
def t_269 : TyD := { und := TypeDesc.array 64 5, size := 64, bytes := 64, zero := [Value.int IntKind.u8 0, Value.int IntKind.u8 0, Value.int IntKind.u8 0, Value.int IntKind.u8 0, Value.int IntKind.u8 0, Value.int IntKind.u8 0, Value.int IntKind.u8 0, Value.int IntKind.u8 0, Value.int IntKind.u8 0, Value.int IntKind.u8 0, Value.int IntKind.u8 0, Value.int IntKind.u8 0, Value.int IntKind.u8 0, Value.int IntKind.u8 0, Value.int IntKind.u8 0, Value.int IntKind.u8 0, Value.int IntKind.u8 0, Value.int IntKind.u8 0, Value.int IntKind.u8 0, Value.int IntKind.u8 0, Value.int IntKind.u8 0, Value.int IntKind.u8 0, Value.int IntKind.u8 0, Value.int IntKind.u8 0, Value.int IntKind.u8 0, Value.int IntKind.u8 0, Value.int IntKind.u8 0, Value.int IntKind.u8 0, Value.int IntKind.u8 0, Value.int IntKind.u8 0, Value.int IntKind.u8 0, Value.int IntKind.u8 0, Value.int IntKind.u8 0, Value.int IntKind.u8 0, Value.int IntKind.u8 0, Value.int IntKind.u8 0, Value.int IntKind.u8 0, Value.int IntKind.u8 0, Value.int IntKind.u8 0, Value.int IntKind.u8 0, Value.int IntKind.u8 0, Value.int IntKind.u8 0, Value.int IntKind.u8 0, Value.int IntKind.u8 0, Value.int IntKind.u8 0, Value.int IntKind.u8 0, Value.int IntKind.u8 0, Value.int IntKind.u8 0, Value.int IntKind.u8 0, Value.int IntKind.u8 0, Value.int IntKind.u8 0, Value.int IntKind.u8 0, Value.int IntKind.u8 0, Value.int IntKind.u8 0, Value.int IntKind.u8 0, Value.int IntKind.u8 0, Value.int IntKind.u8 0, Value.int IntKind.u8 0, Value.int IntKind.u8 0, Value.int IntKind.u8 0, Value.int IntKind.u8 0, Value.int IntKind.u8 0, Value.int IntKind.u8 0, Value.int IntKind.u8 0], fl := true }
theorem i_269 : TabE Tryd.prog (269, t_269, false) := ⟨by kernel_rfl, fun h => by simp at h⟩
def t_270 : TyD := { und := TypeDesc.struct #[{ name := "_interface", type := 17, offset := 0, embedded := false, tag := "", pkgPath := "runtime", byteOffset := 0 }, { name := "concrete", type := 17, offset := 1, embedded := false, tag := "", pkgPath := "runtime", byteOffset := 8 }, { name := "asserted", type := 17, offset := 2, embedded := false, tag := "", pkgPath := "runtime", byteOffset := 16 }, { name := "missingMethod", type := 9, offset := 3, embedded := false, tag := "", pkgPath := "runtime", byteOffset := 24 }], size := 4, bytes := 40, zero := [Value.pointer none, Value.pointer none, Value.pointer none, Value.string ⟨#[]⟩], fl := false }
theorem i_270 : TabE Tryd.prog (270, t_270, false) := ⟨by kernel_rfl, fun h => by simp at h⟩
def t_271 : TyD := { und := TypeDesc.struct #[{ name := "_interface", type := 17, offset := 0, embedded := false, tag := "", pkgPath := "runtime", byteOffset := 0 }, { name := "concrete", type := 17, offset := 1, embedded := false, tag := "", pkgPath := "runtime", byteOffset := 8 }, { name := "asserted", type := 17, offset := 2, embedded := false, tag := "", pkgPath := "runtime", byteOffset := 16 }, { name := "missingMethod", type := 9, offset := 3, embedded := false, tag := "", pkgPath := "runtime", byteOffset := 24 }], size := 4, bytes := 40, zero := [Value.pointer none, Value.pointer none, Value.pointer none, Value.string ⟨#[]⟩], fl := false }
theorem i_271 : TabE Tryd.prog (271, t_271, false) := ⟨by kernel_rfl, fun h => by simp at h⟩
def t_272 : TyD := { und := TypeDesc.array 0 16, size := 0, bytes := 0, zero := [], fl := false }
theorem i_272 : TabE Tryd.prog (272, t_272, false) := ⟨by kernel_rfl, fun h => by simp at h⟩
def t_273 : TyD := { und := TypeDesc.struct #[{ name := "_", type := 272, offset := 0, embedded := false, tag := "", pkgPath := "runtime", byteOffset := 0 }], size := 0, bytes := 0, zero := [], fl := false }
theorem i_273 : TabE Tryd.prog (273, t_273, false) := ⟨by kernel_rfl, fun h => by simp at h⟩
def t_274 : TyD := { und := TypeDesc.struct #[{ name := "_", type := 272, offset := 0, embedded := false, tag := "", pkgPath := "runtime", byteOffset := 0 }], size := 0, bytes := 0, zero := [], fl := false }
theorem i_274 : TabE Tryd.prog (274, t_274, false) := ⟨by kernel_rfl, fun h => by simp at h⟩
def t_275 : TyD := { und := TypeDesc.func #[] #[3] false, size := 1, bytes := 8, zero := [Value.nilFunc], fl := false }
theorem i_275 : TabE Tryd.prog (275, t_275, false) := ⟨by kernel_rfl, fun h => by simp at h⟩
def t_276 : TyD := { und := TypeDesc.int IntKind.u8, size := 1, bytes := 1, zero := [Value.int IntKind.u8 0], fl := true }
theorem i_276 : TabE Tryd.prog (276, t_276, false) := ⟨by kernel_rfl, fun h => by simp at h⟩
def t_277 : TyD := { und := TypeDesc.int IntKind.u8, size := 1, bytes := 1, zero := [Value.int IntKind.u8 0], fl := true }
theorem i_277 : TabE Tryd.prog (277, t_277, false) := ⟨by kernel_rfl, fun h => by simp at h⟩
def t_278 : TyD := { und := TypeDesc.func #[221, 221] #[4] false, size := 1, bytes := 8, zero := [Value.nilFunc], fl := false }
theorem i_278 : TabE Tryd.prog (278, t_278, false) := ⟨by kernel_rfl, fun h => by simp at h⟩
def t_279 : TyD := { und := TypeDesc.int IntKind.i32, size := 1, bytes := 4, zero := [Value.int IntKind.i32 0], fl := true }
theorem i_279 : TabE Tryd.prog (279, t_279, false) := ⟨by kernel_rfl, fun h => by simp at h⟩
def t_280 : TyD := { und := TypeDesc.int IntKind.i32, size := 1, bytes := 4, zero := [Value.int IntKind.i32 0], fl := true }
theorem i_280 : TabE Tryd.prog (280, t_280, false) := ⟨by kernel_rfl, fun h => by simp at h⟩
def t_281 : TyD := { und := TypeDesc.struct #[{ name := "Size_", type := 12, offset := 0, embedded := false, tag := "", pkgPath := "", byteOffset := 0 }, { name := "PtrBytes", type := 12, offset := 1, embedded := false, tag := "", pkgPath := "", byteOffset := 8 }, { name := "Hash", type := 246, offset := 2, embedded := false, tag := "", pkgPath := "", byteOffset := 16 }, { name := "TFlag", type := 276, offset := 3, embedded := false, tag := "", pkgPath := "", byteOffset := 20 }, { name := "Align_", type := 5, offset := 4, embedded := false, tag := "", pkgPath := "", byteOffset := 21 }, { name := "FieldAlign_", type := 5, offset := 5, embedded := false, tag := "", pkgPath := "", byteOffset := 22 }, { name := "Kind_", type := 277, offset := 6, embedded := false, tag := "", pkgPath := "", byteOffset := 23 }, { name := "Equal", type := 278, offset := 7, embedded := false, tag := "", pkgPath := "", byteOffset := 24 }, { name := "GCData", type := 205, offset := 8, embedded := false, tag := "", pkgPath := "", byteOffset := 32 }, { name := "Str", type := 279, offset := 9, embedded := false, tag := "", pkgPath := "", byteOffset := 40 }, { name := "PtrToThis", type := 280, offset := 10, embedded := false, tag := "", pkgPath := "", byteOffset := 44 }], size := 11, bytes := 48, zero := [Value.int IntKind.u64 0, Value.int IntKind.u64 0, Value.int IntKind.u32 0, Value.int IntKind.u8 0, Value.int IntKind.u8 0, Value.int IntKind.u8 0, Value.int IntKind.u8 0, Value.nilFunc, Value.pointer none, Value.int IntKind.i32 0, Value.int IntKind.i32 0], fl := false }
theorem i_281 : TabE Tryd.prog (281, t_281, false) := ⟨by kernel_rfl, fun h => by simp at h⟩
def t_282 : TyD := { und := TypeDesc.struct #[{ name := "Size_", type := 12, offset := 0, embedded := false, tag := "", pkgPath := "", byteOffset := 0 }, { name := "PtrBytes", type := 12, offset := 1, embedded := false, tag := "", pkgPath := "", byteOffset := 8 }, { name := "Hash", type := 246, offset := 2, embedded := false, tag := "", pkgPath := "", byteOffset := 16 }, { name := "TFlag", type := 276, offset := 3, embedded := false, tag := "", pkgPath := "", byteOffset := 20 }, { name := "Align_", type := 5, offset := 4, embedded := false, tag := "", pkgPath := "", byteOffset := 21 }, { name := "FieldAlign_", type := 5, offset := 5, embedded := false, tag := "", pkgPath := "", byteOffset := 22 }, { name := "Kind_", type := 277, offset := 6, embedded := false, tag := "", pkgPath := "", byteOffset := 23 }, { name := "Equal", type := 278, offset := 7, embedded := false, tag := "", pkgPath := "", byteOffset := 24 }, { name := "GCData", type := 205, offset := 8, embedded := false, tag := "", pkgPath := "", byteOffset := 32 }, { name := "Str", type := 279, offset := 9, embedded := false, tag := "", pkgPath := "", byteOffset := 40 }, { name := "PtrToThis", type := 280, offset := 10, embedded := false, tag := "", pkgPath := "", byteOffset := 44 }], size := 11, bytes := 48, zero := [Value.int IntKind.u64 0, Value.int IntKind.u64 0, Value.int IntKind.u32 0, Value.int IntKind.u8 0, Value.int IntKind.u8 0, Value.int IntKind.u8 0, Value.int IntKind.u8 0, Value.nilFunc, Value.pointer none, Value.int IntKind.i32 0, Value.int IntKind.i32 0], fl := false }
theorem i_282 : TabE Tryd.prog (282, t_282, false) := ⟨by kernel_rfl, fun h => by simp at h⟩
def t_283 : TyD := { und := TypeDesc.func #[38] #[2, 4] false, size := 1, bytes := 8, zero := [Value.nilFunc], fl := false }
theorem i_283 : TabE Tryd.prog (283, t_283, false) := ⟨by kernel_rfl, fun h => by simp at h⟩
def t_284 : TyD := { und := TypeDesc.func #[] #[2] false, size := 1, bytes := 8, zero := [Value.nilFunc], fl := false }
theorem i_284 : TabE Tryd.prog (284, t_284, false) := ⟨by kernel_rfl, fun h => by simp at h⟩
def tyTab : List (Nat × TyD × Bool) := [(1, t_1, false), (2, t_2, false), (3, t_3, false), (4, t_4, false), (5, t_5, false), (6, t_6, false), (7, t_7, true), (8, t_8, true), (9, t_9, false), (10, t_10, false), (11, t_11, false), (12, t_12, false), (13, t_13, false), (14, t_14, false), (15, t_15, false), (16, t_16, false), (17, t_17, false), (18, t_18, false), (19, t_19, false), (21, t_21, false), (22, t_22, false), (23, t_23, false), (24, t_24, false), (25, t_25, false), (26, t_26, false), (27, t_27, false), (28, t_28, false), (29, t_29, true), (30, t_30, true), (31, t_31, true), (32, t_32, true), (33, t_33, true), (34, t_34, true), (35, t_35, true), (36, t_36, true), (37, t_37, false), (38, t_38, true), (39, t_39, true), (40, t_40, true), (41, t_41, true), (42, t_42, true), (43, t_43, true), (44, t_44, true), (45, t_45, false), (46, t_46, false), (47, t_47, false), (48, t_48, false), (49, t_49, false), (50, t_50, false), (51, t_51, false), (52, t_52, false), (53, t_53, false), (54, t_54, false), (55, t_55, true), (56, t_56, true), (57, t_57, true), (58, t_58, true), (59, t_59, false), (60, t_60, true), (61, t_61, true), (62, t_62, false), (63, t_63, false), (64, t_64, false), (65, t_65, true), (66, t_66, true), (67, t_67, true), (68, t_68, false), (69, t_69, true), (70, t_70, true), (71, t_71, false), (72, t_72, false), (73, t_73, false), (75, t_75, false), (76, t_76, false), (77, t_77, false), (79, t_79, false), (80, t_80, false), (81, t_81, false), (82, t_82, false), (83, t_83, true), (84, t_84, true), (85, t_85, false), (86, t_86, true), (87, t_87, false), (88, t_88, false), (89, t_89, false), (90, t_90, false), (91, t_91, false), (92, t_92, false), (93, t_93, false), (94, t_94, false), (95, t_95, false), (96, t_96, false), (97, t_97, false), (98, t_98, false), (99, t_99, false), (100, t_100, false), (101, t_101, false), (102, t_102, false), (103, t_103, false), (104, t_104, true), (105, t_105, true), (106, t_106, false), (107, t_107, true), (108, t_108, true), (109, t_109, false), (110, t_110, false), (111, t_111, false), (112, t_112, false), (113, t_113, false), (114, t_114, false), (115, t_115, false), (116, t_116, false), (117, t_117, false), (118, t_118, false), (119, t_119, false), (120, t_120, false), (121, t_121, false), (122, t_122, true), (123, t_123, true), (124, t_124, false), (125, t_125, false), (126, t_126, false), (127, t_127, false), (128, t_128, false), (130, t_130, false), (132, t_132, false), (133, t_133, false), (134, t_134, false), (135, t_135, false), (137, t_137, false), (139, t_139, false), (140, t_140, false), (142, t_142, false), (143, t_143, false), (144, t_144, false), (145, t_145, false), (146, t_146, false), (147, t_147, false), (148, t_148, false), (149, t_149, false), (150, t_150, false), (151, t_151, true), (152, t_152, true), (153, t_153, false), (157, t_157, false), (158, t_158, false), (159, t_159, false), (160, t_160, false), (161, t_161, false), (162, t_162, false), (163, t_163, false), (164, t_164, false), (165, t_165, false), (166, t_166, false), (167, t_167, false), (168, t_168, false), (169, t_169, false), (170, t_170, false), (171, t_171, false), (172, t_172, false), (173, t_173, false), (174, t_174, true), (175, t_175, true), (176, t_176, false), (177, t_177, false), (178, t_178, false), (179, t_179, false), (180, t_180, false), (181, t_181, false), (182, t_182, false), (183, t_183, false), (184, t_184, false), (185, t_185, false), (186, t_186, false), (187, t_187, false), (188, t_188, false), (189, t_189, false), (190, t_190, false), (191, t_191, false), (192, t_192, false), (194, t_194, false), (196, t_196, false), (198, t_198, false), (199, t_199, false), (200, t_200, true), (201, t_201, true), (202, t_202, false), (203, t_203, false), (204, t_204, false), (205, t_205, false), (206, t_206, false), (207, t_207, false), (208, t_208, false), (209, t_209, false), (210, t_210, false), (211, t_211, false), (212, t_212, false), (213, t_213, false), (214, t_214, true), (215, t_215, true), (216, t_216, false), (217, t_217, false), (218, t_218, false), (219, t_219, false), (220, t_220, false), (221, t_221, false), (222, t_222, false), (223, t_223, false), (224, t_224, false), (225, t_225, false), (226, t_226, false), (227, t_227, false), (229, t_229, false), (230, t_230, false), (231, t_231, false), (232, t_232, false), (234, t_234, false), (235, t_235, false), (236, t_236, false), (238, t_238, false), (239, t_239, false), (240, t_240, false), (241, t_241, false), (242, t_242, false), (243, t_243, false), (244, t_244, false), (245, t_245, false), (246, t_246, false), (247, t_247, false), (248, t_248, false), (249, t_249, false), (250, t_250, false), (251, t_251, false), (252, t_252, false), (253, t_253, false), (254, t_254, false), (255, t_255, false), (256, t_256, false), (257, t_257, false), (258, t_258, false), (259, t_259, false), (260, t_260, true), (261, t_261, true), (262, t_262, false), (264, t_264, false), (265, t_265, false), (266, t_266, true), (267, t_267, true), (268, t_268, false), (269, t_269, false), (270, t_270, false), (271, t_271, false), (272, t_272, false), (273, t_273, false), (274, t_274, false), (275, t_275, false), (276, t_276, false), (277, t_277, false), (278, t_278, false), (279, t_279, false), (280, t_280, false), (281, t_281, false), (282, t_282, false), (283, t_283, false), (284, t_284, false)]
@[reducible] def T0 : Ty := lookT tyTab
@[reducible] def Q0 : Nat → Bool := lookQ tyTab
theorem tabOk : TabOk Tryd.prog T0 Q0 := tab_ok (l := tyTab) (⟨i_1, i_2, i_3, i_4, i_5, i_6, i_7, i_8, i_9, i_10, i_11, i_12, i_13, i_14, i_15, i_16, i_17, i_18, i_19, i_21, i_22, i_23, i_24, i_25, i_26, i_27, i_28, i_29, i_30, i_31, i_32, i_33, i_34, i_35, i_36, i_37, i_38, i_39, i_40, i_41, i_42, i_43, i_44, i_45, i_46, i_47, i_48, i_49, i_50, i_51, i_52, i_53, i_54, i_55, i_56, i_57, i_58, i_59, i_60, i_61, i_62, i_63, i_64, i_65, i_66, i_67, i_68, i_69, i_70, i_71, i_72, i_73, i_75, i_76, i_77, i_79, i_80, i_81, i_82, i_83, i_84, i_85, i_86, i_87, i_88, i_89, i_90, i_91, i_92, i_93, i_94, i_95, i_96, i_97, i_98, i_99, i_100, i_101, i_102, i_103, i_104, i_105, i_106, i_107, i_108, i_109, i_110, i_111, i_112, i_113, i_114, i_115, i_116, i_117, i_118, i_119, i_120, i_121, i_122, i_123, i_124, i_125, i_126, i_127, i_128, i_130, i_132, i_133, i_134, i_135, i_137, i_139, i_140, i_142, i_143, i_144, i_145, i_146, i_147, i_148, i_149, i_150, i_151, i_152, i_153, i_157, i_158, i_159, i_160, i_161, i_162, i_163, i_164, i_165, i_166, i_167, i_168, i_169, i_170, i_171, i_172, i_173, i_174, i_175, i_176, i_177, i_178, i_179, i_180, i_181, i_182, i_183, i_184, i_185, i_186, i_187, i_188, i_189, i_190, i_191, i_192, i_194, i_196, i_198, i_199, i_200, i_201, i_202, i_203, i_204, i_205, i_206, i_207, i_208, i_209, i_210, i_211, i_212, i_213, i_214, i_215, i_216, i_217, i_218, i_219, i_220, i_221, i_222, i_223, i_224, i_225, i_226, i_227, i_229, i_230, i_231, i_232, i_234, i_235, i_236, i_238, i_239, i_240, i_241, i_242, i_243, i_244, i_245, i_246, i_247, i_248, i_249, i_250, i_251, i_252, i_253, i_254, i_255, i_256, i_257, i_258, i_259, i_260, i_261, i_262, i_264, i_265, i_266, i_267, i_268, i_269, i_270, i_271, i_272, i_273, i_274, i_275, i_276, i_277, i_278, i_279, i_280, i_281, i_282, i_283, i_284, trivial⟩)
end Go.Proofs.YtinaincgimoanaaDoor.Eng
set_option linter.unusedVariables false
set_option linter.unusedSimpArgs false
namespace Go.Proofs.YtinaincgimoanaaDoor.Eng
open Go Go.RowKit
set_option maxRecDepth 100000
theorem tmod_lt {a b : Int} (h : b ≠ 0) : (a.tmod b).natAbs < b.natAbs := by
  rw [Int.natAbs_tmod]; exact Nat.mod_lt _ (by omega)
theorem gcd_tmod {a b : Int} : Int.gcd b (a.tmod b) = Int.gcd a b := by
  simp only [Int.gcd, Int.natAbs_tmod]
  rw [Nat.gcd_comm, ← Nat.gcd_rec, Nat.gcd_comm]
theorem seg_get {α : Type} {l : List α} {s n i : Nat} {a : α} (h : (seg l s n)[i]? = some a) : l[s + i]? = some a ∧ i < n := by
  unfold seg at h
  rw [List.getElem?_take] at h
  split at h
  · rw [List.getElem?_drop] at h; exact ⟨h, by assumption⟩
  · simp at h
theorem seg_len {α : Type} {l : List α} {s n : Nat} (h : s + n ≤ l.length) : (seg l s n).length = n := by
  simp [seg]; omega
theorem atL_i {α : Type} {l : List α} {s n i : Nat} {a : α} {K : α → Prop} (ha : (seg l s n)[i]? = some a) (h : K a) : atL l (s + ((i : Nat) : Int).toNat) K :=
  atL_iff.2 ⟨a, by simpa using (seg_get ha).1, h⟩
theorem seg_full {α : Type} {l : List α} {n : Nat} (h : l.length = n) : seg l 0 n = l := by simp [seg, ← h]
theorem get_some {α : Type} {l : List α} {i : Nat} (h : i < l.length) : ∃ a, l[i]? = some a := ⟨l[i], by simp [h]⟩
/-- The first place where p holds, or -1. -/
def findI {α : Type} (p : α → Bool) (l : List α) : Int := if l.any p = true then (l.findIdx p : Int) else -1
theorem findI_none {α : Type} {p : α → Bool} {l : List α} (h : ∀ (j : Nat) a, l[j]? = some a → p a = false) : findI p l = -1 := by
  unfold findI
  rw [if_neg]
  rw [List.any_eq_true]
  rintro ⟨a, ha, hp⟩
  obtain ⟨j, hj⟩ := List.getElem?_of_mem ha
  rw [h j a hj] at hp; simp at hp
theorem findI_some {α : Type} {p : α → Bool} {l : List α} {i : Nat} {a : α} (ha : l[i]? = some a) (hp : p a = true) (h : ∀ (j : Nat) a, j < i → l[j]? = some a → p a = false) : findI p l = i := by
  unfold findI
  rw [if_pos (List.any_eq_true.2 ⟨a, List.mem_of_getElem? ha, hp⟩)]
  obtain ⟨hi, e⟩ := List.getElem?_eq_some_iff.1 ha
  have : l.findIdx p = i := by
    rw [List.findIdx_eq hi]
    exact ⟨by rw [e]; exact hp, fun j hj => h j _ hj (by simp)⟩
  rw [this]
theorem findI_any {α : Type} (p : α → Bool) (l : List α) : decide (0 ≤ findI p l) = l.any p := by
  unfold findI
  split
  · rename_i h; rw [h]; simp
  · rename_i h
    have : l.any p = false := by simpa using h
    rw [this]; rfl
theorem app_take {α : Type} {D : List α} {i : Nat} {w : α} (h : D[i]? = some w) : seg (D.take i) 0 i ++ seg [w] 0 1 = D.take (i + 1) := by
  have hl := (List.getElem?_eq_some_iff.1 h).1
  rw [seg_full (by rw [List.length_take]; omega), List.take_add_one, h]; rfl
theorem all_yes {α : Type} {p : α → Bool} {L : List α} {n : Nat} (hn : L.length ≤ n) (h : ∀ (j : Nat) a, j < n → L[j]? = some a → p a = true) : L.all p = true := by
  rw [List.all_eq_true]
  intro a ha
  obtain ⟨j, hj⟩ := List.getElem?_of_mem ha
  exact h j a (by have := (List.getElem?_eq_some_iff.1 hj).1; omega) hj
theorem all_no {α : Type} {p : α → Bool} {L : List α} {i : Nat} {a : α} (ha : L[i]? = some a) (hp : p a = false) : L.all p = false := by
  rw [List.all_eq_false]
  exact ⟨a, List.mem_of_getElem? ha, by simp [hp]⟩
/-- One more place where something holds. -/
theorem upto_step {α : Type} {p : α → Prop} {L : List α} {i : Nat} {a : α} (ha : L[i]? = some a) (hp : p a) (h : ∀ (j : Nat) b, j < i → L[j]? = some b → p b) : ∀ (j : Nat) b, j < i + 1 → L[j]? = some b → p b := fun j b hj hb => by
  by_cases e : j < i
  · exact h j b e hb
  · obtain rfl : j = i := by omega
    rw [ha] at hb; obtain rfl := Option.some.inj hb; exact hp
/-- Tests whose outcome is known. -/
theorem splitT_of {b : Bool} {A B : Prop} (h : b = true) (k : A) : splitB b A B := by subst h; exact splitT k
theorem splitF_of {b : Bool} {A B : Prop} (h : b = false) (k : B) : splitB b A B := by subst h; exact splitF k
def s_within : Spec := fun args S => match args, S with
  | [.int .i64 n, .int .i64 a, .int .i64 b], [] => ⟨True, .bool (decide (a ≤ n ∧ n ≤ b)), []⟩
  | _, _ => noSpec
theorem ok_within : SpecOk Tryd.prog 47 s_within := by
  intro args S h; unfold s_within at h ⊢; (split at h <;> first | exact False.elim h | skip)
  dsimp only at h ⊢
  refine funW tabOk (E := []) trivial [] (k := 0) (fn := Tryd.f47) rfl rfl rfl rfl rfl rfl ?_
  (repeat' ((try (conv => whnf)); first | (with_reducible first | refine And.intro ?_ ?_ | refine WX.of ?_) | exact zc | ((with_reducible refine VC.mk ?_); exact zw) | (with_reducible first | refine splitT ?_ | refine splitF ?_) | ((with_reducible refine splitM.mk (fun hsm => ?_) (fun hsm => ?_)) <;> (try exact zx)) | ((with_reducible refine splitB.mk (fun h => ?_) (fun h => ?_)) <;> (try simp only [zs, ne_eq] at h) <;> (try simp (disch := omega) only [w64] at h) <;> (try exact zx)) | (with_reducible intro hz; (try exact absurd hz (Nat.succ_ne_zero _)))))
  all_goals (first | exact ⟨rfl⟩ | (refine ⟨?_⟩; simp_all; done) | (refine ⟨?_⟩; simp_all; omega))
theorem ok_l00In : SpecOk Tryd.prog 75 s_within := by
  intro args S h; unfold s_within at h ⊢; (split at h <;> first | exact False.elim h | skip)
  dsimp only at h ⊢
  refine funW tabOk (E := []) trivial [] (k := 0) (fn := Tryd.f75) rfl rfl rfl rfl rfl rfl ?_
  (repeat' ((try (conv => whnf)); first | (with_reducible first | refine And.intro ?_ ?_ | refine WX.of ?_) | exact zc | ((with_reducible refine VC.mk ?_); exact zw) | (with_reducible first | refine splitT ?_ | refine splitF ?_) | ((with_reducible refine splitM.mk (fun hsm => ?_) (fun hsm => ?_)) <;> (try exact zx)) | ((with_reducible refine splitB.mk (fun h => ?_) (fun h => ?_)) <;> (try simp only [zs, ne_eq] at h) <;> (try simp (disch := omega) only [w64] at h) <;> (try exact zx)) | (with_reducible intro hz; (try exact absurd hz (Nat.succ_ne_zero _)))))
  all_goals (first | exact ⟨rfl⟩ | (refine ⟨?_⟩; simp_all; done) | (refine ⟨?_⟩; simp_all; omega))
/-- The sizes of all elements. -/
def tot {α : Type} (f : α → Nat) (l : List α) : Nat := (l.map f).sum
def s_gcd : Spec := fun args S => match args, S with
  | [.int .i64 a, .int .i64 b], [] => ⟨-9223372036854775808 < a ∧ a < 9223372036854775808 ∧ -9223372036854775808 < b ∧ b < 9223372036854775808, .int .i64 (Int.gcd a b), []⟩
  | _, _ => noSpec
theorem ok_gcd : SpecOk Tryd.prog 144 s_gcd := by
  intro args S h; unfold s_gcd at h ⊢; (split at h <;> first | exact False.elim h | skip)
  dsimp only at h ⊢
  rename_i a b
  refine funW tabOk (E := []) trivial [] (k := 0) (fn := Tryd.f144) rfl rfl rfl rfl rfl rfl ?_
  (repeat' ((try (conv => whnf)); first | (with_reducible first | refine And.intro ?_ ?_ | refine WX.of ?_) | exact zc | ((with_reducible refine VC.mk ?_); exact zw) | (with_reducible first | refine splitT ?_ | refine splitF ?_) | ((with_reducible refine splitM.mk (fun hsm => ?_) (fun hsm => ?_)) <;> (try exact zx)) | ((with_reducible refine splitB.mk (fun h => ?_) (fun h => ?_)) <;> (try simp only [zs, ne_eq] at h) <;> (try simp (disch := omega) only [w64] at h) <;> (try exact zx)) | (with_reducible intro hz; (try exact absurd hz (Nat.succ_ne_zero _)))))
  refine loopW tabOk (E := []) trivial [] (σ := Int × Int) (fun s => [(0, .int .i64 s.1), (1, .int .i64 s.2)]) (fun _ => []) (fun s => s.2.natAbs) (fun s => Int.gcd s.1 s.2 = Int.gcd a b ∧ -9223372036854775808 < s.1 ∧ s.1 < 9223372036854775808 ∧ -9223372036854775808 < s.2 ∧ s.2 < 9223372036854775808) (a, b) ⟨rfl, h⟩ ?_ ?_
  · (repeat' ((try (conv => whnf)); first | (with_reducible first | refine And.intro ?_ ?_ | refine WX.of ?_) | exact zc | ((with_reducible refine VC.mk ?_); exact zw) | (with_reducible first | refine splitT ?_ | refine splitF ?_) | ((with_reducible refine splitM.mk (fun hsm => ?_) (fun hsm => ?_)) <;> (try exact zx)) | ((with_reducible refine splitB.mk (fun h => ?_) (fun h => ?_)) <;> (try simp only [zs, ne_eq] at h) <;> (try simp (disch := omega) only [w64] at h) <;> (try exact zx)) | (with_reducible intro hz; (try exact absurd hz (Nat.succ_ne_zero _)))))
  · rintro ⟨x, y⟩ ⟨hg, hr⟩
    dsimp only at hg hr
    (repeat' ((try (conv => whnf)); first | (with_reducible first | refine And.intro ?_ ?_ | refine WX.of ?_) | exact zc | ((with_reducible refine VC.mk ?_); exact zw) | (with_reducible first | refine splitT ?_ | refine splitF ?_) | ((with_reducible refine splitM.mk (fun hsm => ?_) (fun hsm => ?_)) <;> (try exact zx)) | ((with_reducible refine splitB.mk (fun h => ?_) (fun h => ?_)) <;> (try simp only [zs, ne_eq] at h) <;> (try simp (disch := omega) only [w64] at h) <;> (try exact zx)) | (with_reducible intro hz; (try exact absurd hz (Nat.succ_ne_zero _)))))
    · have := tmod_lt (a := x) h
      refine ⟨(y, x.tmod y), this, ⟨by rw [← hg]; exact gcd_tmod, ?_⟩, ?_⟩
      · dsimp only; omega
      · (repeat' ((try (conv => whnf)); first | (with_reducible first | refine And.intro ?_ ?_ | refine WX.of ?_) | exact zc | ((with_reducible refine VC.mk ?_); exact zw) | (with_reducible first | refine splitT ?_ | refine splitF ?_) | ((with_reducible refine splitM.mk (fun hsm => ?_) (fun hsm => ?_)) <;> (try exact zx)) | ((with_reducible refine splitB.mk (fun h => ?_) (fun h => ?_)) <;> (try simp only [zs, ne_eq] at h) <;> (try simp (disch := omega) only [w64] at h) <;> (try exact zx)) | (with_reducible intro hz; (try exact absurd hz (Nat.succ_ne_zero _)))))
    · subst h
      simp at hg
      dsimp only
      rw [w64 (by omega)]
      refine ⟨?_⟩
      rw [← hg]
      congr 1
      split <;> omega
def s_abs : Spec := fun args S => match args, S with
  | [.int .i64 n], [] => ⟨-9223372036854775808 < n ∧ n < 9223372036854775808, .int .i64 (n.natAbs : Int), []⟩
  | _, _ => noSpec
theorem ok_l01Abs : SpecOk Tryd.prog 148 s_abs := by
  intro args S h; unfold s_abs at h ⊢; (split at h <;> first | exact False.elim h | skip)
  dsimp only at h ⊢
  refine funW tabOk (E := []) trivial [] (k := 0) (fn := Tryd.f148) rfl rfl rfl rfl rfl rfl ?_
  (repeat' ((try (conv => whnf)); first | (with_reducible first | refine And.intro ?_ ?_ | refine WX.of ?_) | exact zc | ((with_reducible refine VC.mk ?_); exact zw) | (with_reducible first | refine splitT ?_ | refine splitF ?_) | ((with_reducible refine splitM.mk (fun hsm => ?_) (fun hsm => ?_)) <;> (try exact zx)) | ((with_reducible refine splitB.mk (fun h => ?_) (fun h => ?_)) <;> (try simp only [zs, ne_eq] at h) <;> (try simp (disch := omega) only [w64] at h) <;> (try exact zx)) | (with_reducible intro hz; (try exact absurd hz (Nat.succ_ne_zero _)))))
def s_gcdN : Spec := fun args S => match args, S with
  | [.int .i64 a, .int .i64 b], [] => ⟨0 ≤ a ∧ a < 9223372036854775808 ∧ 0 ≤ b ∧ b < 9223372036854775808, .int .i64 (Int.gcd a b), []⟩
  | _, _ => noSpec
theorem ok_l01Gcd : SpecOk Tryd.prog 160 s_gcdN := by
  intro args S h; unfold s_gcdN at h ⊢; (split at h <;> first | exact False.elim h | skip)
  dsimp only at h ⊢
  rename_i a b
  refine funW tabOk (E := []) trivial [] (k := 0) (fn := Tryd.f160) rfl rfl rfl rfl rfl rfl ?_
  (repeat' ((try (conv => whnf)); first | (with_reducible first | refine And.intro ?_ ?_ | refine WX.of ?_) | exact zc | ((with_reducible refine VC.mk ?_); exact zw) | (with_reducible first | refine splitT ?_ | refine splitF ?_) | ((with_reducible refine splitM.mk (fun hsm => ?_) (fun hsm => ?_)) <;> (try exact zx)) | ((with_reducible refine splitB.mk (fun h => ?_) (fun h => ?_)) <;> (try simp only [zs, ne_eq] at h) <;> (try simp (disch := omega) only [w64] at h) <;> (try exact zx)) | (with_reducible intro hz; (try exact absurd hz (Nat.succ_ne_zero _)))))
  refine loopW tabOk (E := []) trivial [] (σ := Int × Int) (fun s => [(0, .int .i64 s.1), (1, .int .i64 s.2)]) (fun _ => []) (fun s => s.2.natAbs) (fun s => Int.gcd s.1 s.2 = Int.gcd a b ∧ 0 ≤ s.1 ∧ s.1 < 9223372036854775808 ∧ 0 ≤ s.2 ∧ s.2 < 9223372036854775808) (a, b) ⟨rfl, h⟩ ?_ ?_
  · (repeat' ((try (conv => whnf)); first | (with_reducible first | refine And.intro ?_ ?_ | refine WX.of ?_) | exact zc | ((with_reducible refine VC.mk ?_); exact zw) | (with_reducible first | refine splitT ?_ | refine splitF ?_) | ((with_reducible refine splitM.mk (fun hsm => ?_) (fun hsm => ?_)) <;> (try exact zx)) | ((with_reducible refine splitB.mk (fun h => ?_) (fun h => ?_)) <;> (try simp only [zs, ne_eq] at h) <;> (try simp (disch := omega) only [w64] at h) <;> (try exact zx)) | (with_reducible intro hz; (try exact absurd hz (Nat.succ_ne_zero _)))))
  · rintro ⟨x, y⟩ ⟨hg, hr⟩
    dsimp only at hg hr
    (repeat' ((try (conv => whnf)); first | (with_reducible first | refine And.intro ?_ ?_ | refine WX.of ?_) | exact zc | ((with_reducible refine VC.mk ?_); exact zw) | (with_reducible first | refine splitT ?_ | refine splitF ?_) | ((with_reducible refine splitM.mk (fun hsm => ?_) (fun hsm => ?_)) <;> (try exact zx)) | ((with_reducible refine splitB.mk (fun h => ?_) (fun h => ?_)) <;> (try simp only [zs, ne_eq] at h) <;> (try simp (disch := omega) only [w64] at h) <;> (try exact zx)) | (with_reducible intro hz; (try exact absurd hz (Nat.succ_ne_zero _)))))
    · have := tmod_lt (a := x) h
      have h2 := Int.tmod_nonneg y hr.1
      refine ⟨(y, x.tmod y), this, ⟨by rw [← hg]; exact gcd_tmod, ?_⟩, ?_⟩
      · dsimp only; omega
      · (repeat' ((try (conv => whnf)); first | (with_reducible first | refine And.intro ?_ ?_ | refine WX.of ?_) | exact zc | ((with_reducible refine VC.mk ?_); exact zw) | (with_reducible first | refine splitT ?_ | refine splitF ?_) | ((with_reducible refine splitM.mk (fun hsm => ?_) (fun hsm => ?_)) <;> (try exact zx)) | ((with_reducible refine splitB.mk (fun h => ?_) (fun h => ?_)) <;> (try simp only [zs, ne_eq] at h) <;> (try simp (disch := omega) only [w64] at h) <;> (try exact zx)) | (with_reducible intro hz; (try exact absurd hz (Nat.succ_ne_zero _)))))
    · subst h
      simp at hg
      refine ⟨?_⟩
      dsimp only
      rw [← hg]
      congr 1
      omega
/-- A valid fraction. -/
def fOk (p q : Int) : Bool := decide (1 ≤ q ∧ q ≤ 1000000000 ∧ -1000000000 ≤ p ∧ p ≤ 1000000000 ∧ Int.gcd p q = 1)
theorem fOk_iff {p q : Int} : fOk p q = true ↔ 1 ≤ q ∧ q ≤ 1000000000 ∧ -1000000000 ≤ p ∧ p ≤ 1000000000 ∧ Int.gcd p q = 1 := by simp [fOk]
def s_fOk : Spec := fun args S => match args, S with
  | [.agg [.int .i64 p, .int .i64 q]], [] => ⟨True, .bool (fOk p q), []⟩
  | _, _ => noSpec
theorem gcd_abs (p q : Int) : Int.gcd (p.natAbs : Int) q = Int.gcd p q := by simp [Int.gcd]
theorem ok_ValidFrac : SpecOk Tryd.prog 102 s_fOk := by
  intro args S h; unfold s_fOk at h ⊢; (split at h <;> first | exact False.elim h | skip)
  dsimp only at h ⊢
  refine funW tabOk (E := [(47, s_within), (144, s_gcd)]) ⟨ok_within, ok_gcd, trivial⟩ [] (k := 0) (fn := Tryd.f102) rfl rfl rfl rfl rfl rfl ?_
  (repeat' ((try (conv => whnf)); first | (with_reducible first | refine And.intro ?_ ?_ | refine WX.of ?_) | exact zc | ((with_reducible refine VC.mk ?_); exact zw) | (with_reducible first | refine splitT ?_ | refine splitF ?_) | ((with_reducible refine splitM.mk (fun hsm => ?_) (fun hsm => ?_)) <;> (try exact zx)) | ((with_reducible refine splitB.mk (fun h => ?_) (fun h => ?_)) <;> (try simp only [zs, ne_eq] at h) <;> (try simp (disch := omega) only [w64] at h) <;> (try exact zx)) | (with_reducible intro hz; (try exact absurd hz (Nat.succ_ne_zero _)))))
  all_goals (refine ⟨congrArg SV.bool ?_⟩; (try dsimp only); (try simp (disch := omega) only [w64]); rw [Bool.eq_iff_iff]; try (simp [fOk]); try omega)
theorem ok_l01Ok : SpecOk Tryd.prog 131 s_fOk := by
  intro args S h; unfold s_fOk at h ⊢; (split at h <;> first | exact False.elim h | skip)
  dsimp only at h ⊢
  refine funW tabOk (E := [(75, s_within), (160, s_gcdN), (148, s_abs)]) ⟨ok_l00In, ok_l01Gcd, ok_l01Abs, trivial⟩ [(1, [(13, 2)])] (k := 0) (fn := Tryd.f131) rfl rfl rfl rfl rfl rfl ?_
  (repeat' ((try (conv => whnf)); first | (with_reducible first | refine And.intro ?_ ?_ | refine WX.of ?_) | exact zc | ((with_reducible refine VC.mk ?_); exact zw) | (with_reducible first | refine splitT ?_ | refine splitF ?_) | ((with_reducible refine splitM.mk (fun hsm => ?_) (fun hsm => ?_)) <;> (try exact zx)) | ((with_reducible refine splitB.mk (fun h => ?_) (fun h => ?_)) <;> (try simp only [zs, ne_eq] at h) <;> (try simp (disch := omega) only [w64] at h) <;> (try exact zx)) | (with_reducible intro hz; (try exact absurd hz (Nat.succ_ne_zero _)))))
  all_goals (refine ⟨congrArg SV.bool ?_⟩; (try dsimp only); (try simp (disch := omega) only [w64]); rw [Bool.eq_iff_iff]; try (simp [fOk, gcd_abs]); try omega)
theorem mulB {a b : Int} (ha : -1000000000 ≤ a ∧ a ≤ 1000000000) (hb : -1000000000 ≤ b ∧ b ≤ 1000000000) : -1000000000000000000 ≤ a * b ∧ a * b ≤ 1000000000000000000 := by
  have h1 : a.natAbs ≤ 1000000000 := by omega
  have h2 : b.natAbs ≤ 1000000000 := by omega
  have h3 := Nat.mul_le_mul h1 h2
  rw [← Int.natAbs_mul] at h3
  omega
theorem mulPos {a b : Int} (ha : 1 ≤ a) (hb : 1 ≤ b) : 1 ≤ a * b := by
  have := Int.mul_le_mul ha hb (by omega) (by omega)
  omega
/-- The parts of a fraction within bounds. -/
def smF (p q : Int) : Prop := (-1000000000 ≤ p ∧ p ≤ 1000000000) ∧ 1 ≤ q ∧ q ≤ 1000000000
theorem smF_ok {p q : Int} (h : fOk p q = true) : smF p q := by
  rw [fOk_iff] at h; unfold smF; omega
theorem smF_mul {p q p' q' : Int} (h : smF p q) (h' : smF p' q') :
    (-1000000000000000000 ≤ p * q' ∧ p * q' ≤ 1000000000000000000) ∧ (-1000000000000000000 ≤ p' * q ∧ p' * q ≤ 1000000000000000000) ∧ (-1000000000000000000 ≤ q * p' ∧ q * p' ≤ 1000000000000000000) ∧ (-1000000000000000000 ≤ p * p' ∧ p * p' ≤ 1000000000000000000) ∧ (1 ≤ q * q' ∧ q * q' ≤ 1000000000000000000) := by
  unfold smF at h h'
  exact ⟨mulB h.1 ⟨by omega, by omega⟩, mulB h'.1 ⟨by omega, by omega⟩, mulB ⟨by omega, by omega⟩ h'.1, mulB h.1 h'.1, mulPos h.2.1 h'.2.1, (mulB ⟨by omega, by omega⟩ ⟨by omega, by omega⟩).2⟩
end Go.Proofs.YtinaincgimoanaaDoor.Eng
set_option linter.unusedVariables false
set_option linter.unusedSimpArgs false
namespace Go.Proofs.YtinaincgimoanaaDoor.Eng
open Go Go.RowKit
set_option maxRecDepth 100000
def sh_lays156_ren : Go.Shelf.Ren := ⟨fun | 156 => 39 | 165 => 92 | 166 => 93 | 169 => 94 | 240 => 139 | 241 => 140 | 276 => 162 | 277 => 163 | n => n, fun | 31 => 90 | 9 => 9 | 3 => 3 | 4 => 4 | 0 => 0 | 20 => 20 | 72 => 152 | 76 => 156 | 70 => 149 | 37 => 150 | 75 => 155 | 127 => 205 | 164 => 221 | 5 => 5 | 80 => 158 | n => n, fun | n => n⟩
theorem sh_lays156 : Go.Proofs.Lays.n156 Tryd.prog sh_lays156_ren := {
  mixed := by kernel_rfl
  f156 := Tryd.func39.trans (congrArg some (by kernel_rfl))
  f165 := Tryd.func92.trans (congrArg some (by kernel_rfl))
  f166 := Tryd.func93.trans (congrArg some (by kernel_rfl))
  f169 := Tryd.func94.trans (congrArg some (by kernel_rfl))
  f240 := Tryd.func139.trans (congrArg some (by kernel_rfl))
  f241 := Tryd.func140.trans (congrArg some (by kernel_rfl))
  f276 := Tryd.func162.trans (congrArg some (by kernel_rfl))
  f277 := Tryd.func163.trans (congrArg some (by kernel_rfl))
  t0 := Tryd.underlying0
  a0 := Tryd.isAgg0
  z0 := Tryd.sizeOf0
  v0 := Tryd.zeroValue0
  t3 := Tryd.underlying3
  a3 := Tryd.isAgg3
  z3 := Tryd.sizeOf3
  v3 := Tryd.zeroValue3
  t4 := Tryd.underlying4
  a4 := Tryd.isAgg4
  z4 := Tryd.sizeOf4
  v4 := Tryd.zeroValue4
  t9 := Tryd.underlying9
  a9 := Tryd.isAgg9
  z9 := Tryd.sizeOf9
  v9 := Tryd.zeroValue9
  t20 := Tryd.underlying20
  a20 := Tryd.isAgg20
  z20 := Tryd.sizeOf20
  v20 := Tryd.zeroValue20
  t31 := Tryd.underlying90
  a31 := Tryd.isAgg90
  z31 := Tryd.sizeOf90
  v31 := Tryd.zeroValue90
  t37 := Tryd.underlying150
  a37 := Tryd.isAgg150
  z37 := Tryd.sizeOf150
  v37 := Tryd.zeroValue150
  t70 := Tryd.underlying149
  a70 := Tryd.isAgg149
  z70 := Tryd.sizeOf149
  v70 := Tryd.zeroValue149
  t72 := Tryd.underlying152
  a72 := Tryd.isAgg152
  z72 := Tryd.sizeOf152
  v72 := Tryd.zeroValue152
  t75 := Tryd.underlying155
  a75 := Tryd.isAgg155
  z75 := Tryd.sizeOf155
  v75 := Tryd.zeroValue155
  t76 := Tryd.underlying156
  a76 := Tryd.isAgg156
  z76 := Tryd.sizeOf156
  v76 := Tryd.zeroValue156
  t127 := Tryd.underlying205
  a127 := Tryd.isAgg205
  z127 := Tryd.sizeOf205
  v127 := Tryd.zeroValue205
  t164 := Tryd.underlying221
  a164 := Tryd.isAgg221
  z164 := Tryd.sizeOf221
  v164 := Tryd.zeroValue221 }
theorem sh_Builder_Extra_156 : Builder.Extra Tryd.prog sh_lays156_ren := {
  sizeBuilder := by kernel_rfl
  liesBuilder := by kernel_rfl
  t5 := Tryd.underlying5
  a5 := Tryd.isAgg5
  z5 := Tryd.sizeOf5
  v5 := Tryd.zeroValue5
  infoByte := by kernel_rfl
  cellsByte := by kernel_rfl
  sizeByte := by kernel_rfl
  neB5 := by decide }
open Go.RowKit in
/-- strings.Join: "Join concatenates the elements of its first argument to create a single string. The separator string sep is placed between elements in the resulting string.": HOWEVER MANY ELEMENTS. Below the heap's end the world is as it was. (LAID: no walk: one application.) -/
theorem sh_strings_Join (bk o c : Nat) (xs : List ByteArray) (sep : ByteArray) (w : World) (hcells : ∀ (j : Nat) x, xs[j]? = some x → w.cell? ⟨bk, o + j, none⟩ = some (.string x)) (hbk : bk < w.heap.size) (hN : xs.length ≤ 140737488355328) (hcap : xs.length ≤ c) (hlen : (Lib.join (xs.map (·.data.toList)) sep.data.toList).length ≤ 140737488355328) :
    Calls Tryd.prog 39 #[.slice (some ⟨bk, o, none⟩) xs.length c, .string sep] w fun e w' => e = .returned (.string ⟨(Lib.join (xs.map (·.data.toList)) sep.data.toList).toArray⟩) ∧ Below w.heap.size w w' := Any.strings_Join sh_lays156 sh_Builder_Extra_156 bk o c xs sep w hcells hbk hN hcap hlen
def sh_laysM173_ren : Go.Shelf.Ren := ⟨fun | 173 => 95 | 246 => 141 | 283 => 164 | 284 => 165 | 285 => 166 | 286 => 167 | 129 => 181 | 317 => 180 | 318 => 182 | 319 => 183 | 320 => 184 | 337 => 198 | 338 => 199 | n => n, fun | 2 => 2 | 3 => 3 | 9 => 9 | 4 => 4 | 171 => 224 | 0 => 0 | 53 => 225 | 37 => 150 | 5 => 5 | 173 => 228 | 212 => 245 | 51 => 246 | 20 => 20 | 213 => 247 | 46 => 239 | 232 => 268 | 233 => 269 | n => n, fun | 17 => 1 | 18 => 6 | 19 => 7 | n => n⟩
theorem sh_laysM173 : Go.Proofs.LaysM.n173 Tryd.prog sh_laysM173_ren := {
  mixed := by kernel_rfl
  f129 := Tryd.func181.trans (congrArg some (by kernel_rfl))
  f173 := Tryd.func95.trans (congrArg some (by kernel_rfl))
  f246 := Tryd.func141.trans (congrArg some (by kernel_rfl))
  f283 := Tryd.func164.trans (congrArg some (by kernel_rfl))
  f284 := Tryd.func165.trans (congrArg some (by kernel_rfl))
  f285 := Tryd.func166.trans (congrArg some (by kernel_rfl))
  f286 := Tryd.func167.trans (congrArg some (by kernel_rfl))
  f317 := Tryd.func180.trans (congrArg some (by kernel_rfl))
  f318 := Tryd.func182.trans (congrArg some (by kernel_rfl))
  f319 := Tryd.func183.trans (congrArg some (by kernel_rfl))
  f320 := Tryd.func184.trans (congrArg some (by kernel_rfl))
  f337 := Tryd.func198.trans (congrArg some (by kernel_rfl))
  f338 := Tryd.func199.trans (congrArg some (by kernel_rfl))
  t0 := Tryd.underlying0
  a0 := Tryd.isAgg0
  z0 := Tryd.sizeOf0
  v0 := Tryd.zeroValue0
  t2 := Tryd.underlying2
  a2 := Tryd.isAgg2
  z2 := Tryd.sizeOf2
  v2 := Tryd.zeroValue2
  t3 := Tryd.underlying3
  a3 := Tryd.isAgg3
  z3 := Tryd.sizeOf3
  v3 := Tryd.zeroValue3
  t4 := Tryd.underlying4
  a4 := Tryd.isAgg4
  z4 := Tryd.sizeOf4
  v4 := Tryd.zeroValue4
  t5 := Tryd.underlying5
  a5 := Tryd.isAgg5
  z5 := Tryd.sizeOf5
  v5 := Tryd.zeroValue5
  t9 := Tryd.underlying9
  a9 := Tryd.isAgg9
  z9 := Tryd.sizeOf9
  v9 := Tryd.zeroValue9
  t20 := Tryd.underlying20
  a20 := Tryd.isAgg20
  z20 := Tryd.sizeOf20
  v20 := Tryd.zeroValue20
  t37 := Tryd.underlying150
  a37 := Tryd.isAgg150
  z37 := Tryd.sizeOf150
  v37 := Tryd.zeroValue150
  t46 := Tryd.underlying239
  a46 := Tryd.isAgg239
  z46 := Tryd.sizeOf239
  v46 := Tryd.zeroValue239
  t51 := Tryd.underlying246
  a51 := Tryd.isAgg246
  z51 := Tryd.sizeOf246
  v51 := Tryd.zeroValue246
  t53 := Tryd.underlying225
  a53 := Tryd.isAgg225
  z53 := Tryd.sizeOf225
  v53 := Tryd.zeroValue225
  t171 := Tryd.underlying224
  a171 := Tryd.isAgg224
  z171 := Tryd.sizeOf224
  v171 := Tryd.zeroValue224
  t173 := Tryd.underlying228
  a173 := Tryd.isAgg228
  z173 := Tryd.sizeOf228
  v173 := Tryd.zeroValue228
  t212 := Tryd.underlying245
  a212 := Tryd.isAgg245
  z212 := Tryd.sizeOf245
  v212 := Tryd.zeroValue245
  t213 := Tryd.underlying247
  a213 := Tryd.isAgg247
  z213 := Tryd.sizeOf247
  t232 := Tryd.underlying268
  a232 := Tryd.isAgg268
  z232 := Tryd.sizeOf268
  v232 := Tryd.zeroValue268
  t233 := Tryd.underlying269
  a233 := Tryd.isAgg269
  z233 := Tryd.sizeOf269
  v233 := Tryd.zeroValue269
  g17 := by kernel_rfl
  g18 := by kernel_rfl
  g19 := by kernel_rfl
  i0 := by kernel_rfl
  i2 := by kernel_rfl
  i3 := by kernel_rfl
  i4 := by kernel_rfl
  i5 := by kernel_rfl
  i9 := by kernel_rfl
  i20 := by kernel_rfl
  i37 := by kernel_rfl
  i46 := by kernel_rfl
  i51 := by kernel_rfl
  i53 := by kernel_rfl
  i171 := by kernel_rfl
  i173 := by kernel_rfl
  i212 := by kernel_rfl
  i232 := by kernel_rfl
  i233 := by kernel_rfl
  m17 := by kernel_rfl
  m18 := by kernel_rfl
  m19 := by kernel_rfl }
open Go.RowKit Go.Sort Go.Lib in
/-- strconv.FormatInt: "FormatInt returns the string representation of i in the given base": AT BASE 10: i's decimal numeral, for every int64. (LAID: no walk: one application.) -/
theorem sh_strconv_FormatInt_10 (n : Int) (h0 : -9223372036854775808 ≤ n) (h1 : n ≤ 9223372036854775807) (w : World) (htab : Lib.TabIs Tryd.prog w "internal/strconv.uint64pow10" .u64 Lib.pow10Tab) :
    Calls Tryd.prog 95 #[.int .i64 n, .int .i64 10] w fun e w' => e = .returned (.string ⟨(Lib.itoa n).toArray⟩) ∧ ∃ k os, w' = grow (w.drewN k) os := Any.strconv_FormatInt_10 sh_laysM173 n h0 h1 w htab
/-- The table that the numbers' texts are made of, wherever the walk stands. -/
theorem HRel.tab {w0 w : World} {ι : Ren} {H : Heap} (h : HRel w0 ι H w) : Lib.TabIs Tryd.prog w "internal/strconv.uint64pow10" .u64 Lib.pow10Tab := by
  have hg := h.glob.1
  unfold GInv Lib.TabIs World.var? at hg
  unfold Lib.TabIs World.var?
  cases e : Tryd.prog.globalNamed "internal/strconv.uint64pow10" with
  | none => rw [e] at hg; cases hg
  | some g =>
    rw [e] at hg
    simp only [Option.bind_some] at hg ⊢
    have hlt : g < w0.heap.size := by
      rcases Nat.lt_or_ge g w0.heap.size with h' | h'
      · exact h'
      · rw [Array.getElem?_eq_none h'] at hg; cases hg
    rw [h.below.block g hlt]
    exact hg
/-- A world that a call has left as it was, but for blocks of its own. -/
theorem HRel.after {w0 w w' : World} {ι : Ren} {H : Heap} (h : HRel w0 ι H w) (hb : Below w.heap.size w w') : HRel w0 ι H w' :=
  ⟨h.below.trans ⟨hb.os, hb.tape, hb.output, hb.size, fun k hk => hb.block k (Nat.lt_of_lt_of_le hk h.below.size)⟩, h.dom, fun id L b hi hbk => by
    obtain ⟨c, e, fr, q1, q⟩ := h.blk id L b hi hbk
    exact ⟨c, e, fr, by rw [hb.block L.blk (h.lt hi hbk)]; exact q1, q⟩, h.sep, h.flat, h.tot, h.glob.1, trivial⟩
/-- A call of flat values that answers a flat value and leaves what was. -/
theorem Runs_flat {f : FuncId} {H : Heap} {more : List Value} {v : Value} (hen : Enters Tryd.prog f) (hmore : ∀ {ι : Ren} {ys : List Value}, LRel ι more ys → ys = more) (hv : flatV v = true)
    (hcon : ∀ w, Lib.TabIs Tryd.prog w "internal/strconv.uint64pow10" .u64 Lib.pow10Tab → Calls Tryd.prog f ⟨more⟩ w fun e w' => e = .returned v ∧ Below w.heap.size w w') :
    Runs Tryd.prog f more H (fun u G => u = v ∧ G = H) := by
  refine ⟨hen, fun w0 ι w args' h2 h3 => ?_⟩
  have := hmore h3
  subst this
  refine (hcon w h2.tab).mono fun e w' ⟨he, hb⟩ => ?_
  exact ⟨_, _, _, ι, he, ⟨rfl, rfl⟩, .flat hv, h2.after hb, .refl _ _, OCs.refl _ _, Nat.le_refl _⟩
end Go.Proofs.YtinaincgimoanaaDoor.Eng
set_option linter.unusedVariables false
set_option linter.unusedSimpArgs false
namespace Go.Proofs.YtinaincgimoanaaDoor.Eng
open Go Go.RowKit
set_option maxRecDepth 100000
/-- One byte turned to a text. -/
theorem conv_one {P : Program} {w : World} {s d b : Nat} {x : Int} (hc : w.cell? ⟨b, 0, none⟩ = some (.int .u8 x)) (h1 : P.underlying s = some (.slice 5)) (h2 : P.underlying 5 = some (.int .u8)) (h3 : P.underlying d = some .string) :
    Sem.run P (convert s d (.slice (some ⟨b, 0, none⟩) 1 1)) w = .ok (.string ⟨#[UInt8.ofNat x.toNat]⟩) w := by
  rw [run_convert_bytes_string w s d 5 _ _ _ h1 h2 h3]
  have hld : (loadCells ⟨b, 0, none⟩ 1).run P w = .ok ([x].map (Value.int .u8)).toArray w :=
    run_loadCells (P := P) w _ 1 (fun _ => .int .u8 x) fun j hj => by
      obtain rfl : j = 0 := by omega
      exact hc
  rw [run_bytesToString w _ 1 1 [x] hld]
  rfl
/-- The digits of a number that is at least 0, k + 1 of them at most. -/
def decT : Nat → Int → List UInt8
  | 0, n => [UInt8.ofNat (48 + n % 10).toNat]
  | k + 1, n => if n < 10 then [UInt8.ofNat (48 + n % 10).toNat] else decT k (n / 10) ++ [UInt8.ofNat (48 + n % 10).toNat]
theorem decT_len : ∀ (k : Nat) (n : Int), (decT k n).length ≤ k + 1
  | 0, n => by simp [decT]
  | k + 1, n => by
    have := decT_len k (n / 10)
    simp only [decT]
    split
    · simp
    · simp; omega
set_option maxRecDepth 100000 in
theorem dec_calls : ∀ (k : Nat) (n : Int) (w : World), k ≤ 100 → 0 ≤ n → n < 10 ^ (k + 1) → n ≤ 9223372036854775807 →
    Calls Tryd.prog 88 #[.int .i64 n] w fun e w' => e = .returned (.string ⟨(decT k n).toArray⟩) ∧ Below w.heap.size w w' := by
  intro k
  induction k with
  | zero =>
    intro n w hk h0 h1 h2
    have h3 : n < 10 := by simpa using h1
    go_enter Tryd.func88, Tryd.ntmps88
    go_wp2
    rw [conv_one (x := 48 + n % 10) (by go_simp) (by kernel_rfl) (by kernel_rfl) (by kernel_rfl)]
    go_wp2
    go_ret
    exact ⟨rfl, (Below.refl _ w).alloc (Nat.le_refl _) _⟩
  | succ k ih =>
    intro n w hk h0 h1 h2
    by_cases h3 : n < 10
    · go_enter Tryd.func88, Tryd.ntmps88
      go_wp2
      rw [conv_one (x := 48 + n % 10) (by go_simp) (by kernel_rfl) (by kernel_rfl) (by kernel_rfl)]
      go_wp2
      go_ret
      refine ⟨?_, (Below.refl _ w).alloc (Nat.le_refl _) _⟩
      rw [show decT (k + 1) n = [UInt8.ofNat (48 + n % 10).toNat] from if_pos h3]
      rfl
    · go_enter Tryd.func88, Tryd.ntmps88
      have hconv : ∀ (W : World) (b : Nat) (x : Int), W.cell? ⟨b, 0, none⟩ = some (.int .u8 x) → Sem.run Tryd.prog (convert 150 9 (.slice (some ⟨b, 0, none⟩) 1 1)) W = .ok (.string ⟨#[UInt8.ofNat x.toNat]⟩) W :=
        fun W b x hc => conv_one hc (by kernel_rfl) (by kernel_rfl) (by kernel_rfl)
      have ihx : ∀ W, Calls Tryd.prog 88 #[.int .i64 (IntKind.i64.wrap (n.tdiv 10))] W fun e w' => e = .returned (.string ⟨(decT k (n / 10)).toArray⟩) ∧ Below W.heap.size W w' := fun W => by
        have e : IntKind.i64.wrap (n.tdiv 10) = n / 10 := by rw [Int.tdiv_eq_ediv_of_nonneg h0, w64 (by omega)]
        rw [e]
        refine ih _ _ (by omega) (by omega) ?_ (by omega)
        have : (10 : Int) ^ (k + 1 + 1) = 10 ^ (k + 1) * 10 := Int.pow_succ ..
        omega
      have hl := decT_len k (n / 10)
      have hl1 : (decT k (n / 10)).length + 1 ≤ 9223372036854775807 := by omega
      have hl2 : ¬ 9223372036854775807 < (decT k (n / 10)).length + 1 := by omega
      have hl3 : (decT k (n / 10)).length < 9223372036854775807 := by omega
      have hl4 : (decT k (n / 10)).length ≤ 9223372036854775806 := by omega
      have e1 : IntKind.u8.wrap (IntKind.i64.wrap (48 + n.tmod 10)) = 48 + n % 10 := by
        rw [Int.tmod_eq_emod_of_nonneg h0, w64 (by omega)]
        simp [IntKind.wrap, IntKind.bits, IntKind.signed]
        omega
      have mk1 : ∀ {W' : World}, Below (w.drew.alloc (.cells #[.int .u8 (48 + n % 10)] 5)).heap.size (w.drew.alloc (.cells #[.int .u8 (48 + n % 10)] 5)) W' → W'.cell? ⟨w.heap.size, 0, none⟩ = some (.int .u8 (48 + n % 10)) := fun hb => by
        have hc : (w.drew.alloc (.cells #[.int .u8 (48 + n % 10)] 5)).cell? ⟨w.heap.size, 0, none⟩ = some (.int .u8 (48 + n % 10)) := by go_simp
        exact (hb.cell (World.block_lt_of_cell? _ _ hc)).trans hc
      go_wp2
      go_region_with (go_at_call 88; refine (ihx _).mono ?_; rintro e w' ⟨rfl, hb⟩; try have hq := mk1 hb)
      all_goals go_wp2
      all_goals go_ret
      all_goals
        refine ⟨?_, ?_⟩
        · rw [show decT (k + 1) n = decT k (n / 10) ++ [UInt8.ofNat (48 + n % 10).toNat] from if_neg (by omega)]
          show Ending.returned (Value.string ((⟨(decT k (n / 10)).toArray⟩ : ByteArray) ++ (⟨#[UInt8.ofNat (48 + n % 10).toNat]⟩ : ByteArray))) = _
          have key : ((⟨(decT k (n / 10)).toArray⟩ : ByteArray) ++ (⟨#[UInt8.ofNat (48 + n % 10).toNat]⟩ : ByteArray)) = ⟨(decT k (n / 10) ++ [UInt8.ofNat (48 + n % 10).toNat]).toArray⟩ := ByteArray.ext (by simp)
          rw [key]
        · first
            | exact ((Below.refl _ w).trans (show Below w.heap.size w w' from ⟨hb.os, hb.tape, hb.output, hb.size, hb.block⟩)).alloc hb.size _
            | exact ⟨hb.os, hb.tape, hb.output, Nat.le_trans (by simp) hb.size, fun k hk => (hb.block k (by simp; omega)).trans (heap_alloc_old _ _ hk)⟩
end Go.Proofs.YtinaincgimoanaaDoor.Eng
set_option linter.unusedVariables false
set_option linter.unusedSimpArgs false
namespace Go.Proofs.YtinaincgimoanaaDoor.Eng
open Go Go.RowKit
set_option maxRecDepth 100000
/-- A call of flat values, told by the machine's own word. -/
theorem RunsS_flat {f : FuncId} {args : List SV} {S : List SB} {v : SV} (hen : Enters Tryd.prog f) (ha : args.all flatS = true) (hv : flatS v = true)
    (hcon : ∀ w, Lib.TabIs Tryd.prog w "internal/strconv.uint64pow10" .u64 Lib.pow10Tab → Calls Tryd.prog f ⟨args.map toV⟩ w fun e w' => e = .returned (toV v) ∧ Below w.heap.size w w') : RunsS Tryd.prog f args S v S := by
  intro H ρ args' hD hd h
  have e := LDR.fun2 h (map_toV ha ρ)
  subst e
  have hfl := (map_toV ha ρ).flat ha
  have h1 := map_toV (xs := [v]) (by simp [hv]) ρ
  have hvf : flatV (toV v) = true := (List.all_eq_true.1 (h1.flat (by simp [hv]))) _ (by simp)
  obtain ⟨u, r, e1, hdr, _⟩ := h1.inv_cons
  obtain ⟨rfl, _⟩ := List.cons.inj e1
  refine ⟨toV v, H, ρ, Runs_flat hen (fun hl => (hl.flat_eq fun v hv => List.all_eq_true.1 hfl v hv)) hvf hcon, hdr, .refl hD hd⟩
/-- Numbers' texts. -/
def dcl (n : Int) : List UInt8 := decT 18 n
def sgT (n : Int) : List UInt8 := if n < 0 then 45 :: dcl (-n) else dcl n
theorem decT_19 (n : Int) : (dcl n).length ≤ 19 := decT_len 18 n
theorem sgT_20 (n : Int) : (sgT n).length ≤ 20 := by
  unfold sgT
  split
  · have := decT_19 (-n); simp; omega
  · have := decT_19 n; omega
def s_dcl : Spec := fun args S => match args, S with
  | [.int .i64 n], [] => ⟨0 ≤ n ∧ n ≤ 9223372036854775807, .str (dcl n), []⟩
  | _, _ => noSpec
theorem ok_dcl : SpecOk Tryd.prog 88 s_dcl := by
  intro args S h; unfold s_dcl at h ⊢; (split at h <;> first | exact False.elim h | skip)
  dsimp only at h ⊢
  rename_i n
  refine RunsS_flat ⟨Tryd.f88, rfl, rfl, rfl⟩ rfl rfl fun w _ => ?_
  exact dec_calls 18 n w (by omega) h.1 (by have : (10 : Int) ^ (18 + 1) = 10000000000000000000 := by decide
                                            omega) h.2
def s_sgT : Spec := fun args S => match args, S with
  | [.int .i64 n], [] => ⟨-9223372036854775807 ≤ n ∧ n ≤ 9223372036854775807, .str (sgT n), []⟩
  | _, _ => noSpec
theorem ok_sgT : SpecOk Tryd.prog 87 s_sgT := by
  intro args S h; unfold s_sgT at h ⊢; (split at h <;> first | exact False.elim h | skip)
  dsimp only at h ⊢
  rename_i n
  have h1 := decT_19 (-n)
  by_cases hn : n < 0
  · rw [show sgT n = 45 :: dcl (-n) from if_pos hn]
    have e : IntKind.i64.wrap (-n) = -n := w64 (by omega)
    refine funW tabOk (E := [(88, s_dcl)]) ⟨ok_dcl, trivial⟩ [] (k := 0) (fn := Tryd.f87) rfl rfl rfl rfl rfl rfl ?_
    (repeat' ((try (conv => whnf)); first | (with_reducible first | refine And.intro ?_ ?_ | refine WX.of ?_) | exact zc | ((with_reducible refine VC.mk ?_); exact zw) | ((with_reducible refine VC.mk ?_); exact ⟨by omega, by omega⟩) | (with_reducible first | refine splitT ?_ | refine splitF ?_) | ((with_reducible refine splitM.mk (fun hsm => ?_) (fun hsm => ?_)) <;> (try exact zx)) | ((with_reducible refine splitB.mk (fun h => ?_) (fun h => ?_)) <;> (try simp only [zs, ne_eq] at h) <;> (try simp (disch := omega) only [w64] at h) <;> (try exact zx)) | (with_reducible intro hz; (try exact absurd hz (Nat.succ_ne_zero _)))))
    · rw [show (0 - n : Int) = -n by omega, e]
      exact ⟨by simp; omega⟩
    · rw [show (0 - n : Int) = -n by omega, e]
      exact ⟨rfl⟩
  · rw [show sgT n = dcl n from if_neg hn]
    refine funW tabOk (E := [(88, s_dcl)]) ⟨ok_dcl, trivial⟩ [] (k := 0) (fn := Tryd.f87) rfl rfl rfl rfl rfl rfl ?_
    (repeat' ((try (conv => whnf)); first | (with_reducible first | refine And.intro ?_ ?_ | refine WX.of ?_) | exact zc | ((with_reducible refine VC.mk ?_); exact zw) | ((with_reducible refine VC.mk ?_); exact ⟨by omega, by omega⟩) | (with_reducible first | refine splitT ?_ | refine splitF ?_) | ((with_reducible refine splitM.mk (fun hsm => ?_) (fun hsm => ?_)) <;> (try exact zx)) | ((with_reducible refine splitB.mk (fun h => ?_) (fun h => ?_)) <;> (try simp only [zs, ne_eq] at h) <;> (try simp (disch := omega) only [w64] at h) <;> (try exact zx)) | (with_reducible intro hz; (try exact absurd hz (Nat.succ_ne_zero _)))))
def s_itoa : Spec := fun args S => match args, S with
  | [.int .i64 n, .int .i64 10], [] => ⟨-9223372036854775808 ≤ n ∧ n ≤ 9223372036854775807, .str (Lib.itoa n), []⟩
  | _, _ => noSpec
theorem ok_itoa : SpecOk Tryd.prog 95 s_itoa := by
  intro args S h; unfold s_itoa at h ⊢; (split at h <;> first | exact False.elim h | skip)
  dsimp only at h ⊢
  rename_i n
  refine RunsS_flat ⟨Tryd.f95, rfl, rfl, rfl⟩ rfl rfl fun w ht => ?_
  refine (sh_strconv_FormatInt_10 n h.1 h.2 w ht).mono fun e w' ⟨he, k, os, hw⟩ => ⟨he, ?_⟩
  rw [hw]
  exact ⟨rfl, rfl, rfl, by simp [Go.Sort.grow, World.drewN], fun k hk => Go.Sort.heap_grow_old (w.drewN _) os (by simpa [World.drewN] using hk)⟩
theorem decT_dig : ∀ (k u : Nat), u < 10 ^ (k + 1) → decT k u = Lib.decDigits u
  | 0, u, h => by
    have h : u < 10 := by simpa using h
    rw [Lib.decDigits, dif_pos h, decT, show (48 + (u : Int) % 10).toNat = 48 + u by omega]
  | k + 1, u, h => by
    rw [Lib.decDigits]
    by_cases h1 : u < 10
    · rw [dif_pos h1, decT, if_pos (by omega), show (48 + (u : Int) % 10).toNat = 48 + u by omega]
    · rw [dif_neg h1, decT, if_neg (by omega), show (u : Int) / 10 = ((u / 10 : Nat) : Int) by omega, decT_dig k (u / 10) (by
        have : 10 ^ (k + 1 + 1) = 10 ^ (k + 1) * 10 := Nat.pow_succ ..
        omega), show (48 + (u : Int) % 10).toNat = 48 + u % 10 by omega]
theorem dcl_dig {n : Int} (h0 : 0 ≤ n) (h1 : n ≤ 9223372036854775808) : dcl n = Lib.decDigits n.toNat := by
  have := decT_dig 18 n.toNat (by have : 10 ^ (18 + 1) = 10000000000000000000 := by decide
                                  omega)
  rw [← this, dcl, show ((n.toNat : Nat) : Int) = n by omega]
theorem itoa_sgT {n : Int} (h0 : -9223372036854775807 ≤ n) (h1 : n ≤ 9223372036854775807) : Lib.itoa n = sgT n := by
  unfold Lib.itoa sgT
  split
  · rw [dcl_dig (by omega) (by omega), show n.natAbs = (-n).toNat by omega]
  · rw [dcl_dig (by omega) (by omega)]
theorem ok_decI : SpecOk Tryd.prog 40 s_sgT := by
  intro args S h; unfold s_sgT at h ⊢; (split at h <;> first | exact False.elim h | skip)
  dsimp only at h ⊢
  rename_i n
  rw [← itoa_sgT h.1 h.2]
  refine funW tabOk (E := [(95, s_itoa)]) ⟨ok_itoa, trivial⟩ [] (k := 0) (fn := Tryd.f40) rfl rfl rfl rfl rfl rfl ?_
  (repeat' ((try (conv => whnf)); first | (with_reducible first | refine And.intro ?_ ?_ | refine WX.of ?_) | exact zc | ((with_reducible refine VC.mk ?_); exact zw) | ((with_reducible refine VC.mk ?_); exact ⟨by omega, by omega⟩) | (with_reducible first | refine splitT ?_ | refine splitF ?_) | ((with_reducible refine splitM.mk (fun hsm => ?_) (fun hsm => ?_)) <;> (try exact zx)) | ((with_reducible refine splitB.mk (fun h => ?_) (fun h => ?_)) <;> (try simp only [zs, ne_eq] at h) <;> (try simp (disch := omega) only [w64] at h) <;> (try exact zx)) | (with_reducible intro hz; (try exact absurd hz (Nat.succ_ne_zero _)))))
end Go.Proofs.YtinaincgimoanaaDoor.Eng
set_option linter.unusedVariables false
set_option linter.unusedSimpArgs false
namespace Go.Proofs.YtinaincgimoanaaDoor.Eng
open Go Go.RowKit
set_option maxRecDepth 100000
/-- What a row's cells are in the machine. -/
theorem HRel.listCells {w0 w : World} {ι : Ren} {H : Heap} (h : HRel w0 ι H w) {id : Nat} {L : Loc} {b : Blk} (hi : ι id = some L) (hb : H[id]? = some (some b)) (hfl : b.fl = true) :
    L.blk < w.heap.size ∧ ∀ (j : Nat) (v : Value), b.cells[j]? = some v → w.cell? ⟨L.blk, L.off + j, none⟩ = some v := by
  obtain ⟨c, e, fr, q1, q2, q3, q4, q5, q6⟩ := h.blk id L b hi hb
  refine ⟨h.lt hi hb, fun j v hv => ?_⟩
  obtain ⟨v', r1, r2⟩ := q5 j v hv
  have hf := h.flat id b hb hfl v (List.mem_of_getElem? hv)
  have := r2.flat_eq hf
  subst this
  rw [World.cell?]
  simp [q1, r1]
  done
/-- A call of a list and flat values that leaves what was. -/
theorem Runs_list {f : FuncId} {H : Heap} {id n c : Nat} {b : Blk} {more : List Value} {v : Value} (hb : getB H id = some b) (hn : 0 < n) (hfl : b.fl = true)
    (hen : Enters Tryd.prog f) (hmore : ∀ {ι : Ren} {ys : List Value}, LRel ι more ys → ys = more) (hv : flatV v = true)
    (hcon : ∀ (w : World) (blk off cap : Nat), Lib.TabIs Tryd.prog w "internal/strconv.uint64pow10" .u64 Lib.pow10Tab → (∀ (j : Nat) (v : Value), b.cells[j]? = some v → w.cell? ⟨blk, off + j, none⟩ = some v) → blk < w.heap.size → n ≤ cap →
      Calls Tryd.prog f ⟨.slice (some ⟨blk, off, none⟩) n cap :: more⟩ w fun e w' => e = .returned v ∧ Below w.heap.size w w') :
    Runs Tryd.prog f (.slice (some ⟨id, 0, none⟩) n c :: more) H (fun u G => u = v ∧ G = H) := by
  refine ⟨hen, fun w0 ι w args' h2 h3 => ?_⟩
  obtain ⟨v', ys, rfl, hv', hys⟩ := h3.inv_cons
  have := hmore hys
  subst this
  cases hv' with
  | sl _ _ _ _ L a' c' hi hn' hz hl' hx ha =>
    have hcne : c' ≠ 0 := by omega
    have ha := ha.resolve_right hcne
    subst ha
    rw [Nat.add_zero]
    obtain ⟨hlt, hcell⟩ := h2.listCells hi (getB_eq.1 hb) hfl
    refine (hcon w L.blk L.off c' h2.tab hcell hlt hn').mono fun e w' ⟨he, hb⟩ => ?_
    exact ⟨_, _, _, ι, he, ⟨rfl, rfl⟩, .flat hv, h2.after hb, .refl _ _, OCs.refl _ _, Nat.le_refl _⟩
theorem fm_str : ∀ (l : List (List UInt8)), (l.flatMap (ET.enc .str)) = l.map SV.str
  | [] => rfl
  | a :: l => by rw [List.flatMap_cons, fm_str l]; rfl
def s_join : Spec := fun args S => match args, S with
  | [.sl 0 0 n x, .str sep], [.arr .str l 1 true] => ⟨n = l.length ∧ (1 ≤ n ∧ n ≤ 1000000) ∧ (Lib.join l sep).length ≤ 140737488355328, .str (Lib.join l sep), [.arr .str l 1 true]⟩
  | _, _ => noSpec
theorem ok_join : SpecOk Tryd.prog 39 s_join := by
  intro args S h; unfold s_join at h ⊢; (split at h <;> first | exact False.elim h | skip)
  dsimp only at h ⊢
  rename_i n x sep l
  obtain ⟨rfl, ⟨h1, h2⟩, h3⟩ := h
  intro H ρ args' hD hd ha
  obtain ⟨v1, r1, rfl, k1, ha⟩ := ha.inv_cons
  obtain ⟨v2, r2, rfl, k2, ha⟩ := ha.inv_cons
  rw [ha.inv_nil]
  have hv2 : v2 = .string ⟨⟨sep⟩⟩ := by cases k2; rfl
  obtain ⟨id, w, kb, q1, q2, q3⟩ := hD.blk 0 _ rfl rfl
  obtain ⟨rfl, e2, e3, e4, e5⟩ := q3
  have hv1 : v1 = .slice (some ⟨id, 0, none⟩) l.length (l.length + x + 1) := by
    cases k1 with | sl _ _ _ _ id' w' hb' => rw [q1] at hb'; obtain ⟨rfl, rfl⟩ := Prod.mk.inj (Option.some.inj hb'); simp
  have hc : kb.cells = (l.flatMap (ET.enc .str)).map toV := LDR.fun2 e5 (map_toV (flat_all _) ρ)
  have hxs : ((l.map fun s => (⟨⟨s⟩⟩ : ByteArray)).map (·.data.toList)) = l := by
    rw [List.map_map]
    show List.map (fun s => s) l = l
    exact List.map_id' l
  have hfm := fm_str l
  have hrun := Runs_list (f := 39) (H := H) (id := id) (n := l.length) (c := l.length + x + 1) (b := kb) (more := [.string ⟨⟨sep⟩⟩]) (v := .string ⟨(Lib.join l sep).toArray⟩) q2 (by omega) e4 ⟨Tryd.f39, rfl, rfl, rfl⟩
    (fun hy => hy.flat_eq fun v hv => by simp at hv; subst hv; rfl) rfl ?_
  · rw [hv1, hv2]
    exact ⟨_, _, ρ, hrun, .str _, .refl hD hd⟩
  · intro W blk off cap ht hcell hlt hcap
    have := sh_strings_Join blk off cap (l.map fun s => (⟨⟨s⟩⟩ : ByteArray)) ⟨⟨sep⟩⟩ W (fun j y hy => by
      refine hcell j _ ?_
      rw [hc]
      rw [hfm, List.map_map, List.getElem?_map]
      rw [List.getElem?_map] at hy
      cases e : l[j]? with
      | none => rw [e] at hy; simp at hy
      | some s =>
        rw [e] at hy
        simp only [Option.map_some, Option.some.injEq] at hy
        rw [← hy]
        rfl) hlt (by simp; omega) (by simpa using hcap) (by rw [hxs]; exact h3)
    rw [hxs, List.length_map] at this
    exact this
end Go.Proofs.YtinaincgimoanaaDoor.Eng
set_option linter.unusedVariables false
set_option linter.unusedSimpArgs false
namespace Go.Proofs.YtinaincgimoanaaDoor.Eng
open Go Go.RowKit
set_option maxRecDepth 100000
def s_toFrac : Spec := fun args S => match args, S with
  | [.agg [.int .i64 p, .int .i64 q]], [] => ⟨True, .agg [.int .i64 p, .int .i64 q], []⟩
  | _, _ => noSpec
theorem ok_toFrac : SpecOk Tryd.prog 45 s_toFrac := by
  intro args S h; unfold s_toFrac at h ⊢; (split at h <;> first | exact False.elim h | skip)
  dsimp only at h ⊢
  refine funW tabOk (E := []) trivial [] (k := 0) (fn := Tryd.f45) rfl rfl rfl rfl rfl rfl ?_
  (repeat' ((try (conv => whnf)); first | (with_reducible first | refine And.intro ?_ ?_ | refine WX.of ?_) | exact zc | ((with_reducible refine VC.mk ?_); exact zw) | (with_reducible first | refine splitT ?_ | refine splitF ?_) | ((with_reducible refine splitM.mk (fun hsm => ?_) (fun hsm => ?_)) <;> (try exact zx)) | ((with_reducible refine splitB.mk (fun h => ?_) (fun h => ?_)) <;> (try simp only [zs, ne_eq] at h) <;> (try simp (disch := omega) only [w64] at h) <;> (try exact zx)) | (with_reducible intro hz; (try exact absurd hz (Nat.succ_ne_zero _)))))
def s_nfOk : Spec := fun args S => match args, S with
  | [.agg [.int .i64 p, .int .i64 q]], [] => ⟨True, .bool (!fOk p q), []⟩
  | _, _ => noSpec
theorem ok_areValid1 : SpecOk Tryd.prog 101 s_nfOk := by
  intro args S h; unfold s_nfOk at h ⊢; (split at h <;> first | exact False.elim h | skip)
  dsimp only at h ⊢
  refine funW tabOk (E := [(102, s_fOk)]) ⟨ok_ValidFrac, trivial⟩ [] (k := 0) (fn := Tryd.f101) rfl rfl rfl rfl rfl rfl ?_
  (repeat' ((try (conv => whnf)); first | (with_reducible first | refine And.intro ?_ ?_ | refine WX.of ?_) | exact zc | ((with_reducible refine VC.mk ?_); exact zw) | (with_reducible first | refine splitT ?_ | refine splitF ?_) | ((with_reducible refine splitM.mk (fun hsm => ?_) (fun hsm => ?_)) <;> (try exact zx)) | ((with_reducible refine splitB.mk (fun h => ?_) (fun h => ?_)) <;> (try simp only [zs, ne_eq] at h) <;> (try simp (disch := omega) only [w64] at h) <;> (try exact zx)) | (with_reducible intro hz; (try exact absurd hz (Nat.succ_ne_zero _)))))
def nfOk (a : Int × Int) : Bool := !fOk a.1 a.2
def s_idxF (g : Nat) : Spec := fun args S => match args, S with
  | [.sl 0 s n x, .fn g' []], [.arr (.prod (.int .i64) (.int .i64)) l 2 wr] => ⟨g' = g ∧ s + n ≤ l.length ∧ n ≤ 4611686018427387904, .int .i64 (findI nfOk (seg l s n)), [.arr (.prod (.int .i64) (.int .i64)) l 2 wr]⟩
  | _, _ => noSpec
theorem ok_idxF : SpecOk Tryd.prog 143 (s_idxF 101) := by
  intro args S h; unfold s_idxF at h ⊢; (split at h <;> first | exact False.elim h | skip)
  dsimp only at h ⊢
  rename_i s n x g l wr
  obtain ⟨rfl, h1, h2⟩ := h
  have hL := seg_len h1
  refine funW tabOk (E := [(101, s_nfOk)]) ⟨ok_areValid1, trivial⟩ [] (k := 1) (fn := Tryd.f143) rfl rfl rfl rfl rfl rfl ?_
  (repeat' ((try (conv => whnf)); first | (with_reducible first | refine And.intro ?_ ?_ | refine WX.of ?_) | exact zc | ((with_reducible refine VC.mk ?_); exact zw) | (with_reducible first | refine splitT ?_ | refine splitF ?_) | ((with_reducible refine splitM.mk (fun hsm => ?_) (fun hsm => ?_)) <;> (try exact zx)) | ((with_reducible refine splitB.mk (fun h => ?_) (fun h => ?_)) <;> (try simp only [zs, ne_eq] at h) <;> (try simp (disch := omega) only [w64] at h) <;> (try exact zx)) | (with_reducible intro hz; (try exact absurd hz (Nat.succ_ne_zero _)))))
  refine loopW tabOk (E := [(101, s_nfOk)]) ⟨ok_areValid1, trivial⟩ [] (σ := Nat) (fun i => [(0, .sl 0 s n x), (1, .fn 101 []), (7, .int .i64 n), (8, .int .i64 i)]) (fun i => [.arr (.prod (.int .i64) (.int .i64)) l 2 wr]) (fun i => n - i) (fun i => i ≤ n ∧ ∀ (j : Nat) a, j < i → (seg l s n)[j]? = some a → nfOk a = false) 0 ⟨Nat.zero_le _, fun j a hj => by omega⟩ ?_ ?_
  · (repeat' ((try (conv => whnf)); first | (with_reducible first | refine And.intro ?_ ?_ | refine WX.of ?_) | exact zc | ((with_reducible refine VC.mk ?_); exact zw) | (with_reducible first | refine splitT ?_ | refine splitF ?_) | ((with_reducible refine splitM.mk (fun hsm => ?_) (fun hsm => ?_)) <;> (try exact zx)) | ((with_reducible refine splitB.mk (fun h => ?_) (fun h => ?_)) <;> (try simp only [zs, ne_eq] at h) <;> (try simp (disch := omega) only [w64] at h) <;> (try exact zx)) | (with_reducible intro hz; (try exact absurd hz (Nat.succ_ne_zero _)))))
  · intro i ⟨hi, hp⟩
    by_cases hlt : i < n
    · obtain ⟨a, ha⟩ := get_some (l := seg l s n) (i := i) (by omega)
      (repeat' ((try (conv => whnf)); first | (with_reducible first | refine And.intro ?_ ?_ | refine WX.of ?_) | exact zc | ((with_reducible refine VC.mk ?_); exact zw) | refine atL_i ha ?_ | (with_reducible first | refine splitT ?_ | refine splitF ?_) | ((with_reducible refine splitM.mk (fun hsm => ?_) (fun hsm => ?_)) <;> (try exact zx)) | ((with_reducible refine splitB.mk (fun h => ?_) (fun h => ?_)) <;> (try simp only [zs, ne_eq] at h) <;> (try simp (disch := omega) only [w64] at h) <;> (try exact zx)) | (with_reducible intro hz; (try exact absurd hz (Nat.succ_ne_zero _)))))
      · exact ⟨by rw [findI_some ha (by simpa [nfOk] using h) hp]⟩
      · refine ⟨i + 1, by omega, ⟨hlt, upto_step ha (by simpa [nfOk] using h) hp⟩, ?_⟩
        (repeat' ((try (conv => whnf)); first | (with_reducible first | refine And.intro ?_ ?_ | refine WX.of ?_) | exact zc | ((with_reducible refine VC.mk ?_); exact zw) | (with_reducible first | refine splitT ?_ | refine splitF ?_) | ((with_reducible refine splitM.mk (fun hsm => ?_) (fun hsm => ?_)) <;> (try exact zx)) | ((with_reducible refine splitB.mk (fun h => ?_) (fun h => ?_)) <;> (try simp only [zs, ne_eq] at h) <;> (try simp (disch := omega) only [w64] at h) <;> (try exact zx)) | (with_reducible intro hz; (try exact absurd hz (Nat.succ_ne_zero _)))))
    · (repeat' ((try (conv => whnf)); first | (with_reducible first | refine And.intro ?_ ?_ | refine WX.of ?_) | exact zc | ((with_reducible refine VC.mk ?_); exact zw) | (with_reducible first | refine splitT ?_ | refine splitF ?_) | ((with_reducible refine splitM.mk (fun hsm => ?_) (fun hsm => ?_)) <;> (try exact zx)) | ((with_reducible refine splitB.mk (fun h => ?_) (fun h => ?_)) <;> (try simp only [zs, ne_eq] at h) <;> (try simp (disch := omega) only [w64] at h) <;> (try exact zx)) | (with_reducible intro hz; (try exact absurd hz (Nat.succ_ne_zero _)))))
      exact ⟨by rw [findI_none fun j a hj => hp j a (by have := (List.getElem?_eq_some_iff.1 hj).1; omega) hj]⟩
def s_anyF (g : Nat) : Spec := fun args S => match args, S with
  | [.sl 0 s n x, .fn g' []], [.arr (.prod (.int .i64) (.int .i64)) l 2 wr] => ⟨g' = g ∧ s + n ≤ l.length ∧ n ≤ 4611686018427387904, .bool ((seg l s n).any nfOk), [.arr (.prod (.int .i64) (.int .i64)) l 2 wr]⟩
  | _, _ => noSpec
theorem ok_anyF : SpecOk Tryd.prog 100 (s_anyF 101) := by
  intro args S h; unfold s_anyF at h ⊢; (split at h <;> first | exact False.elim h | skip)
  dsimp only at h ⊢
  rename_i s n x g l wr
  obtain ⟨rfl, h1, h2⟩ := h
  refine funW tabOk (E := [(143, (s_idxF 101))]) ⟨ok_idxF, trivial⟩ [] (k := 1) (fn := Tryd.f100) rfl rfl rfl rfl rfl rfl ?_
  (repeat' ((try (conv => whnf)); first | (with_reducible first | refine And.intro ?_ ?_ | refine WX.of ?_) | exact zc | ((with_reducible refine VC.mk ?_); exact zw) | (with_reducible first | refine splitT ?_ | refine splitF ?_) | ((with_reducible refine splitM.mk (fun hsm => ?_) (fun hsm => ?_)) <;> (try exact zx)) | ((with_reducible refine splitB.mk (fun h => ?_) (fun h => ?_)) <;> (try simp only [zs, ne_eq] at h) <;> (try simp (disch := omega) only [w64] at h) <;> (try exact zx)) | (with_reducible intro hz; (try exact absurd hz (Nat.succ_ne_zero _)))))
  exact ⟨by rw [findI_any]⟩
/-- Valid fractions. -/
def allF (L : List (Int × Int)) : Bool := L.all fun a => fOk a.1 a.2
def s_allF : Spec := fun args S => match args, S with
  | [.sl 0 s n x], [.arr (.prod (.int .i64) (.int .i64)) l 2 wr] => ⟨s + n ≤ l.length ∧ n ≤ 4611686018427387904, .bool (allF (seg l s n)), [.arr (.prod (.int .i64) (.int .i64)) l 2 wr]⟩
  | _, _ => noSpec
theorem ok_areValid : SpecOk Tryd.prog 48 s_allF := by
  intro args S h; unfold s_allF at h ⊢; (split at h <;> first | exact False.elim h | skip)
  dsimp only at h ⊢
  refine funW tabOk (E := [(100, (s_anyF 101))]) ⟨ok_anyF, trivial⟩ [] (k := 1) (fn := Tryd.f48) rfl rfl rfl rfl rfl rfl ?_
  (repeat' ((try (conv => whnf)); first | (with_reducible first | refine And.intro ?_ ?_ | refine WX.of ?_) | exact zc | ((with_reducible refine VC.mk ?_); exact zw) | (with_reducible first | refine splitT ?_ | refine splitF ?_) | ((with_reducible refine splitM.mk (fun hsm => ?_) (fun hsm => ?_)) <;> (try exact zx)) | ((with_reducible refine splitB.mk (fun h => ?_) (fun h => ?_)) <;> (try simp only [zs, ne_eq] at h) <;> (try simp (disch := omega) only [w64] at h) <;> (try exact zx)) | (with_reducible intro hz; (try exact absurd hz (Nat.succ_ne_zero _)))))
  all_goals (refine ⟨?_⟩; unfold allF; rw [List.all_eq_not_any_not]; rfl)
/-- Comparing. -/
def cmpF (p q p' q' : Int) : Int := if p * q' < p' * q then -1 else if p * q' > p' * q then 1 else 0
def s_cmp : Spec := fun args S => match args, S with
  | [.agg [.int .i64 p, .int .i64 q], .agg [.int .i64 p', .int .i64 q']], [] => ⟨smF p q ∧ smF p' q', .int .i64 (cmpF p q p' q'), []⟩
  | _, _ => noSpec
theorem ok_compare : SpecOk Tryd.prog 103 s_cmp := by
  intro args S h; unfold s_cmp at h ⊢; (split at h <;> first | exact False.elim h | skip)
  dsimp only at h ⊢
  rename_i p q p' q'
  have hm := smF_mul h.1 h.2
  have hm' := smF_mul h.2 h.1
  refine funW tabOk (E := []) trivial [] (k := 0) (fn := Tryd.f103) rfl rfl rfl rfl rfl rfl ?_
  (repeat' ((try (conv => whnf)); first | (with_reducible first | refine And.intro ?_ ?_ | refine WX.of ?_) | exact zc | ((with_reducible refine VC.mk ?_); exact zw) | (with_reducible first | refine splitT ?_ | refine splitF ?_) | ((with_reducible refine splitM.mk (fun hsm => ?_) (fun hsm => ?_)) <;> (try exact zx)) | ((with_reducible refine splitB.mk (fun h => ?_) (fun h => ?_)) <;> (try simp only [zs, ne_eq] at h) <;> (try simp (disch := omega) only [w64] at h) <;> (try exact zx)) | (with_reducible intro hz; (try exact absurd hz (Nat.succ_ne_zero _)))))
  all_goals (refine ⟨?_⟩; unfold cmpF; first | (rw [if_pos (by omega)]; done) | (rw [if_neg (by omega), if_pos (by omega)]; done) | (rw [if_neg (by omega), if_neg (by omega)]))
theorem ok_l01Cmp : SpecOk Tryd.prog 142 s_cmp := by
  intro args S h; unfold s_cmp at h ⊢; (split at h <;> first | exact False.elim h | skip)
  dsimp only at h ⊢
  rename_i p q p' q'
  have hm := smF_mul h.1 h.2
  have hm' := smF_mul h.2 h.1
  refine funW tabOk (E := []) trivial [] (k := 0) (fn := Tryd.f142) rfl rfl rfl rfl rfl rfl ?_
  (repeat' ((try (conv => whnf)); first | (with_reducible first | refine And.intro ?_ ?_ | refine WX.of ?_) | exact zc | ((with_reducible refine VC.mk ?_); exact zw) | (with_reducible first | refine splitT ?_ | refine splitF ?_) | ((with_reducible refine splitM.mk (fun hsm => ?_) (fun hsm => ?_)) <;> (try exact zx)) | ((with_reducible refine splitB.mk (fun h => ?_) (fun h => ?_)) <;> (try simp only [zs, ne_eq] at h) <;> (try simp (disch := omega) only [w64] at h) <;> (try exact zx)) | (with_reducible intro hz; (try exact absurd hz (Nat.succ_ne_zero _)))))
  all_goals (refine ⟨?_⟩; unfold cmpF; first | (rw [if_pos (by omega)]; done) | (rw [if_neg (by omega), if_pos (by omega)]; done) | (rw [if_neg (by omega), if_neg (by omega)]))
theorem cmpF_le {p q p' q' : Int} : cmpF p q p' q' ≤ 0 ↔ p * q' ≤ p' * q := by unfold cmpF; (repeat' split) <;> omega
/-- A valid span. -/
def spOk (p q p' q' : Int) : Bool := fOk p q && fOk p' q' && decide (p * q' ≤ p' * q)
theorem spOk_iff {p q p' q' : Int} : spOk p q p' q' = true ↔ fOk p q = true ∧ fOk p' q' = true ∧ p * q' ≤ p' * q := by simp [spOk, and_assoc]
def s_vSpan : Spec := fun args S => match args, S with
  | [.agg [.int .i64 p, .int .i64 q, .int .i64 p', .int .i64 q']], [] => ⟨True, .bool (spOk p q p' q'), []⟩
  | _, _ => noSpec
theorem allF_two {p q p' q' : Int} : allF (seg [(p, q), (p', q')] 0 2) = (fOk p q && fOk p' q') := by simp [allF, seg]
theorem ok_ValidSpan : SpecOk Tryd.prog 49 s_vSpan := by
  intro args S h; unfold s_vSpan at h ⊢; (split at h <;> first | exact False.elim h | skip)
  dsimp only at h ⊢
  rename_i p q p' q'
  have hc := cmpF_le (p := p) (q := q) (p' := p') (q' := q')
  refine funW tabOk (E := [(48, s_allF), (103, s_cmp)]) ⟨ok_areValid, ok_compare, trivial⟩ [] (k := 0) (fn := Tryd.f49) rfl rfl rfl rfl rfl rfl ?_
  (repeat' ((try (conv => whnf)); first | (with_reducible first | refine And.intro ?_ ?_ | refine WX.of ?_) | exact zc | ((with_reducible refine VC.mk ?_); exact zw) | (with_reducible first | refine splitT ?_ | refine splitF ?_) | ((with_reducible refine splitM.mk (fun hsm => ?_) (fun hsm => ?_)) <;> (try exact zx)) | ((with_reducible refine splitB.mk (fun h => ?_) (fun h => ?_)) <;> (try simp only [zs, ne_eq] at h) <;> (try simp (disch := omega) only [w64] at h) <;> (try exact zx)) | (with_reducible intro hz; (try exact absurd hz (Nat.succ_ne_zero _)))))
  · exact ⟨⟨Nat.le_refl 2, by omega⟩⟩
  · rw [allF_two, Bool.and_eq_true] at h
    exact ⟨⟨smF_ok h.1, smF_ok h.2⟩⟩
  · rw [allF_two, Bool.and_eq_true] at h
    refine ⟨congrArg SV.bool ?_⟩
    simp only [hc]; simp [spOk, h]
  · rw [allF_two] at h
    refine ⟨congrArg SV.bool ?_⟩
    simp only [spOk, h]; rfl
end Go.Proofs.YtinaincgimoanaaDoor.Eng
set_option linter.unusedVariables false
set_option linter.unusedSimpArgs false
namespace Go.Proofs.YtinaincgimoanaaDoor.Eng
open Go Go.RowKit
set_option maxRecDepth 100000
theorem allF_all {L : List (Int × Int)} (h : allF L = true) {i : Nat} {a : Int × Int} (ha : L[i]? = some a) : fOk a.1 a.2 = true :=
  List.all_eq_true.1 h a (List.mem_of_getElem? ha)
end Go.Proofs.YtinaincgimoanaaDoor.Eng
set_option linter.unusedVariables false
set_option linter.unusedSimpArgs false
namespace Go.Proofs.YtinaincgimoanaaDoor.Eng
open Go Go.RowKit
set_option maxRecDepth 100000
end Go.Proofs.YtinaincgimoanaaDoor.Eng
set_option linter.unusedVariables false
set_option linter.unusedSimpArgs false
namespace Go.Proofs.YtinaincgimoanaaDoor.Eng
open Go Go.RowKit
set_option maxRecDepth 100000
end Go.Proofs.YtinaincgimoanaaDoor.Eng
set_option linter.unusedVariables false
set_option linter.unusedSimpArgs false
namespace Go.Proofs.YtinaincgimoanaaDoor.Eng
open Go Go.RowKit
set_option maxRecDepth 100000
end Go.Proofs.YtinaincgimoanaaDoor.Eng
set_option linter.unusedVariables false
set_option linter.unusedSimpArgs false
namespace Go.Proofs.YtinaincgimoanaaDoor.Eng
open Go Go.RowKit
set_option maxRecDepth 100000
/-- A fraction's text, a span's. -/
def frT (p q : Int) : List UInt8 := if q = 1 then sgT p else (sgT p ++ [47]) ++ dcl q
def spT (p q p' q' : Int) : List UInt8 := (frT p q ++ [46, 46]) ++ frT p' q'
theorem frT_len (p q : Int) : (frT p q).length ≤ 40 := by
  have h1 := sgT_20 p
  have h2 := decT_19 q
  unfold frT
  split
  · omega
  · simp; omega
theorem spT_len (p q p' q' : Int) : (spT p q p' q').length ≤ 82 := by
  have h1 := frT_len p q
  have h2 := frT_len p' q'
  unfold spT
  simp; omega
def s_frT : Spec := fun args S => match args, S with
  | [.agg [.int .i64 p, .int .i64 q]], [] => ⟨smF p q, .str (frT p q), []⟩
  | _, _ => noSpec
def s_frTI : Spec := fun args S => match args, S with
  | [.agg [.int .i64 p, .int .i64 q]], [] => ⟨True, .str (if fOk p q = true then frT p q else []), []⟩
  | _, _ => noSpec
def s_spTI : Spec := fun args S => match args, S with
  | [.agg [.int .i64 p, .int .i64 q, .int .i64 p', .int .i64 q']], [] => ⟨True, .str (if spOk p q p' q' = true then spT p q p' q' else []), []⟩
  | _, _ => noSpec
theorem ok_l01Text : SpecOk Tryd.prog 98 s_frT := by
  intro args S h; unfold s_frT at h ⊢; (split at h <;> first | exact False.elim h | skip)
  dsimp only at h ⊢
  rename_i p q
  obtain ⟨h1, h2, h3⟩ := h
  have l1 := sgT_20 p
  have l2 := decT_19 q
  by_cases hq : q = 1
  · rw [show frT p q = sgT p from if_pos hq]
    refine funW tabOk (E := [(87, s_sgT), (88, s_dcl)]) ⟨ok_sgT, ok_dcl, trivial⟩ [(3, [(5, 0)])] (k := 0) (fn := Tryd.f98) rfl rfl rfl rfl rfl rfl ?_
    (repeat' ((try (conv => whnf)); first | (with_reducible first | refine And.intro ?_ ?_ | refine WX.of ?_) | exact zc | ((with_reducible refine VC.mk ?_); exact zw) | ((with_reducible refine VC.mk ?_); exact ⟨by omega, by omega⟩) | (with_reducible first | refine splitT ?_ | refine splitF ?_) | ((with_reducible refine splitM.mk (fun hsm => ?_) (fun hsm => ?_)) <;> (try exact zx)) | ((with_reducible refine splitB.mk (fun h => ?_) (fun h => ?_)) <;> (try simp only [zs, ne_eq] at h) <;> (try simp (disch := omega) only [w64] at h) <;> (try exact zx)) | (with_reducible intro hz; (try exact absurd hz (Nat.succ_ne_zero _)))))
  · rw [show frT p q = (sgT p ++ [47]) ++ dcl q from if_neg hq]
    refine funW tabOk (E := [(87, s_sgT), (88, s_dcl)]) ⟨ok_sgT, ok_dcl, trivial⟩ [(3, [(5, 0)])] (k := 0) (fn := Tryd.f98) rfl rfl rfl rfl rfl rfl ?_
    (repeat' ((try (conv => whnf)); first | (with_reducible first | refine And.intro ?_ ?_ | refine WX.of ?_) | exact zc | ((with_reducible refine VC.mk ?_); exact zw) | ((with_reducible refine VC.mk ?_); exact ⟨by omega, by omega⟩) | (with_reducible first | refine splitT ?_ | refine splitF ?_) | ((with_reducible refine splitM.mk (fun hsm => ?_) (fun hsm => ?_)) <;> (try exact zx)) | ((with_reducible refine splitB.mk (fun h => ?_) (fun h => ?_)) <;> (try simp only [zs, ne_eq] at h) <;> (try simp (disch := omega) only [w64] at h) <;> (try exact zx)) | (with_reducible intro hz; (try exact absurd hz (Nat.succ_ne_zero _)))))
    all_goals (refine ⟨?_⟩; simp; omega)
theorem ok_FracTextI : SpecOk Tryd.prog 57 s_frTI := by
  intro args S h; unfold s_frTI at h ⊢; (split at h <;> first | exact False.elim h | skip)
  dsimp only at h ⊢
  rename_i p q
  by_cases hf : fOk p q = true
  · rw [if_pos hf]
    obtain ⟨h1, h2, h3⟩ := smF_ok hf
    have l1 := sgT_20 p
    have l2 := sgT_20 q
    by_cases hq : q = 1
    · rw [show frT p q = sgT p from if_pos hq]
      refine funW tabOk (E := [(102, s_fOk), (40, s_sgT)]) ⟨ok_ValidFrac, ok_decI, trivial⟩ [] (k := 0) (fn := Tryd.f57) rfl rfl rfl rfl rfl rfl ?_
      (repeat' ((try (conv => whnf)); first | (with_reducible first | refine And.intro ?_ ?_ | refine WX.of ?_) | exact zc | ((with_reducible refine VC.mk ?_); exact zw) | ((with_reducible refine VC.mk ?_); exact ⟨by omega, by omega⟩) | ((with_reducible refine splitT_of ?_ ?_); (focus (simp only [hf, Bool.not_true, Bool.not_true, Bool.not_false, decide_true, decide_false]; done))) | ((with_reducible refine splitF_of ?_ ?_); (focus (simp only [hf, Bool.not_true, Bool.not_true, Bool.not_false, decide_true, decide_false]; done))) | (with_reducible first | refine splitT ?_ | refine splitF ?_) | ((with_reducible refine splitM.mk (fun hsm => ?_) (fun hsm => ?_)) <;> (try exact zx)) | ((with_reducible refine splitB.mk (fun h => ?_) (fun h => ?_)) <;> (try simp only [zs, ne_eq] at h) <;> (try simp (disch := omega) only [w64] at h) <;> (try exact zx)) | (with_reducible intro hz; (try exact absurd hz (Nat.succ_ne_zero _)))))
    · rw [show frT p q = (sgT p ++ [47]) ++ sgT q from by rw [show sgT q = dcl q from if_neg (by omega)]; exact if_neg hq]
      refine funW tabOk (E := [(102, s_fOk), (40, s_sgT)]) ⟨ok_ValidFrac, ok_decI, trivial⟩ [] (k := 0) (fn := Tryd.f57) rfl rfl rfl rfl rfl rfl ?_
      (repeat' ((try (conv => whnf)); first | (with_reducible first | refine And.intro ?_ ?_ | refine WX.of ?_) | exact zc | ((with_reducible refine VC.mk ?_); exact zw) | ((with_reducible refine VC.mk ?_); exact ⟨by omega, by omega⟩) | ((with_reducible refine splitT_of ?_ ?_); (focus (simp only [hf, Bool.not_true, Bool.not_true, Bool.not_false, decide_true, decide_false]; done))) | ((with_reducible refine splitF_of ?_ ?_); (focus (simp only [hf, Bool.not_true, Bool.not_true, Bool.not_false, decide_true, decide_false]; done))) | (with_reducible first | refine splitT ?_ | refine splitF ?_) | ((with_reducible refine splitM.mk (fun hsm => ?_) (fun hsm => ?_)) <;> (try exact zx)) | ((with_reducible refine splitB.mk (fun h => ?_) (fun h => ?_)) <;> (try simp only [zs, ne_eq] at h) <;> (try simp (disch := omega) only [w64] at h) <;> (try exact zx)) | (with_reducible intro hz; (try exact absurd hz (Nat.succ_ne_zero _)))))
      all_goals (refine ⟨?_⟩; simp; omega)
  · rw [if_neg hf]
    have hf : fOk p q = false := by simpa using hf
    refine funW tabOk (E := [(102, s_fOk), (40, s_sgT)]) ⟨ok_ValidFrac, ok_decI, trivial⟩ [] (k := 0) (fn := Tryd.f57) rfl rfl rfl rfl rfl rfl ?_
    (repeat' ((try (conv => whnf)); first | (with_reducible first | refine And.intro ?_ ?_ | refine WX.of ?_) | exact zc | ((with_reducible refine VC.mk ?_); exact zw) | ((with_reducible refine splitT_of ?_ ?_); (focus (simp only [hf, Bool.not_false, Bool.not_true, Bool.not_false, decide_true, decide_false]; done))) | ((with_reducible refine splitF_of ?_ ?_); (focus (simp only [hf, Bool.not_false, Bool.not_true, Bool.not_false, decide_true, decide_false]; done))) | (with_reducible first | refine splitT ?_ | refine splitF ?_) | ((with_reducible refine splitM.mk (fun hsm => ?_) (fun hsm => ?_)) <;> (try exact zx)) | ((with_reducible refine splitB.mk (fun h => ?_) (fun h => ?_)) <;> (try simp only [zs, ne_eq] at h) <;> (try simp (disch := omega) only [w64] at h) <;> (try exact zx)) | (with_reducible intro hz; (try exact absurd hz (Nat.succ_ne_zero _)))))
theorem ok_SpanTextI : SpecOk Tryd.prog 51 s_spTI := by
  intro args S h; unfold s_spTI at h ⊢; (split at h <;> first | exact False.elim h | skip)
  dsimp only at h ⊢
  rename_i p q p' q'
  by_cases hf : spOk p q p' q' = true
  · rw [if_pos hf]
    obtain ⟨h1, h2, h3⟩ := spOk_iff.1 hf
    have l1 := frT_len p q
    have l2 := frT_len p' q'
    refine funW tabOk (E := [(49, s_vSpan), (57, s_frTI)]) ⟨ok_ValidSpan, ok_FracTextI, trivial⟩ [(3, [(5, 0)])] (k := 0) (fn := Tryd.f51) rfl rfl rfl rfl rfl rfl ?_
    (repeat' ((try (conv => whnf)); first | (with_reducible first | refine And.intro ?_ ?_ | refine WX.of ?_) | exact zc | ((with_reducible refine VC.mk ?_); exact zw) | ((with_reducible refine splitT_of ?_ ?_); (focus (simp only [hf, Bool.not_true, Bool.not_true, Bool.not_false, decide_true, decide_false]; done))) | ((with_reducible refine splitF_of ?_ ?_); (focus (simp only [hf, Bool.not_true, Bool.not_true, Bool.not_false, decide_true, decide_false]; done))) | (with_reducible first | refine splitT ?_ | refine splitF ?_) | ((with_reducible refine splitM.mk (fun hsm => ?_) (fun hsm => ?_)) <;> (try exact zx)) | ((with_reducible refine splitB.mk (fun h => ?_) (fun h => ?_)) <;> (try simp only [zs, ne_eq] at h) <;> (try simp (disch := omega) only [w64] at h) <;> (try exact zx)) | (with_reducible intro hz; (try exact absurd hz (Nat.succ_ne_zero _)))))
    all_goals (refine ⟨?_⟩; simp only [h1, h2, if_true]; first | rfl | (simp; omega))
  · rw [if_neg hf]
    have hf : spOk p q p' q' = false := by simpa using hf
    refine funW tabOk (E := [(49, s_vSpan), (57, s_frTI)]) ⟨ok_ValidSpan, ok_FracTextI, trivial⟩ [(3, [(5, 0)])] (k := 0) (fn := Tryd.f51) rfl rfl rfl rfl rfl rfl ?_
    (repeat' ((try (conv => whnf)); first | (with_reducible first | refine And.intro ?_ ?_ | refine WX.of ?_) | exact zc | ((with_reducible refine VC.mk ?_); exact zw) | ((with_reducible refine splitT_of ?_ ?_); (focus (simp only [hf, Bool.not_false, Bool.not_true, Bool.not_false, decide_true, decide_false]; done))) | ((with_reducible refine splitF_of ?_ ?_); (focus (simp only [hf, Bool.not_false, Bool.not_true, Bool.not_false, decide_true, decide_false]; done))) | (with_reducible first | refine splitT ?_ | refine splitF ?_) | ((with_reducible refine splitM.mk (fun hsm => ?_) (fun hsm => ?_)) <;> (try exact zx)) | ((with_reducible refine splitB.mk (fun h => ?_) (fun h => ?_)) <;> (try simp only [zs, ne_eq] at h) <;> (try simp (disch := omega) only [w64] at h) <;> (try exact zx)) | (with_reducible intro hz; (try exact absurd hz (Nat.succ_ne_zero _)))))
/-- Fractions' texts, with blanks between. -/
def frsT (L : List (Int × Int)) : List UInt8 := Lib.join (L.map fun a => frT a.1 a.2) [32]
theorem frsT_len : ∀ {L : List (Int × Int)}, (frsT L).length ≤ 41 * L.length
  | [] => by simp [frsT, Lib.join, List.intercalate]
  | [a] => by have := frT_len a.1 a.2; simp [frsT, Lib.join, List.intercalate]; omega
  | a :: b :: L => by
    have h1 := frT_len a.1 a.2
    have h2 := frsT_len (L := b :: L)
    have e : frsT (a :: b :: L) = frT a.1 a.2 ++ ([32] ++ frsT (b :: L)) := by
      simp [frsT, Lib.join, List.intercalate, List.intersperse]
    rw [e]
    simp only [List.length_append, List.length_cons, List.length_nil] at h2 ⊢
    omega
def s_frsT : Spec := fun args S => match args, S with
  | [.sl 0 s n x], [.arr (.prod (.int .i64) (.int .i64)) l 2 wr] => ⟨(s + n ≤ l.length ∧ 1 ≤ n ∧ n ≤ 100000) ∧ allF (seg l s n) = true, .str (frsT (seg l s n)), [.arr (.prod (.int .i64) (.int .i64)) l 2 wr]⟩
  | _, _ => noSpec
theorem ok_fracTexts : SpecOk Tryd.prog 50 s_frsT := by
  intro args S h; unfold s_frsT at h ⊢; (split at h <;> first | exact False.elim h | skip)
  dsimp only at h ⊢
  rename_i s n x l wr
  obtain ⟨⟨h1, h2, h4⟩, hV⟩ := h
  have hL := seg_len h1
  refine funW tabOk (E := [(57, s_frTI), (39, s_join)]) ⟨ok_FracTextI, ok_join, trivial⟩ [] (k := 1) (fn := Tryd.f50) rfl rfl rfl rfl rfl rfl ?_
  (repeat' ((try (conv => whnf)); first | (with_reducible first | refine And.intro ?_ ?_ | refine WX.of ?_) | exact zc | ((with_reducible refine VC.mk ?_); exact zw) | (with_reducible first | refine splitT ?_ | refine splitF ?_) | ((with_reducible refine splitM.mk (fun hsm => ?_) (fun hsm => ?_)) <;> (try exact zx)) | ((with_reducible refine splitB.mk (fun h => ?_) (fun h => ?_)) <;> (try simp only [zs, ne_eq] at h) <;> (try simp (disch := omega) only [w64] at h) <;> (try exact zx)) | (with_reducible intro hz; (try exact absurd hz (Nat.succ_ne_zero _)))))
  refine loopW tabOk (E := [(57, s_frTI), (39, s_join)]) ⟨ok_FracTextI, ok_join, trivial⟩ [] (σ := Nat) (fun i => [(3, .sl 1 0 i 0), (7, .sl 0 s n x), (8, .int .i64 n), (9, .int .i64 i)]) (fun i => [.arr (.prod (.int .i64) (.int .i64)) l 2 wr, .arr .str (((seg l s n).map fun a => frT a.1 a.2).take i) 1 true]) (fun i => n - i) (fun i => i ≤ n) 0 (Nat.zero_le _) ?_ ?_
  · (repeat' ((try (conv => whnf)); first | (with_reducible first | refine And.intro ?_ ?_ | refine WX.of ?_) | exact zc | ((with_reducible refine VC.mk ?_); exact zw) | (with_reducible first | refine splitT ?_ | refine splitF ?_) | ((with_reducible refine splitM.mk (fun hsm => ?_) (fun hsm => ?_)) <;> (try exact zx)) | ((with_reducible refine splitB.mk (fun h => ?_) (fun h => ?_)) <;> (try simp only [zs, ne_eq] at h) <;> (try simp (disch := omega) only [w64] at h) <;> (try exact zx)) | (with_reducible intro hz; (try exact absurd hz (Nat.succ_ne_zero _)))))
  · intro i hi
    have hlen : (((seg l s n).map fun a => frT a.1 a.2).take i).length = i := by rw [List.length_take, List.length_map]; omega
    by_cases hlt : i < n
    · obtain ⟨⟨p, q⟩, ha⟩ := get_some (l := seg l s n) (i := i) (by omega)
      have hf : fOk p q = true := allF_all hV ha
      (repeat' ((try (conv => whnf)); first | (with_reducible first | refine And.intro ?_ ?_ | refine WX.of ?_) | exact zc | ((with_reducible refine VC.mk ?_); exact zw) | with_reducible refine atL_i ha ?_ | (with_reducible first | refine splitT ?_ | refine splitF ?_) | ((with_reducible refine splitM.mk (fun hsm => ?_) (fun hsm => ?_)) <;> (try exact zx)) | ((with_reducible refine splitB.mk (fun h => ?_) (fun h => ?_)) <;> (try simp only [zs, ne_eq] at h) <;> (try simp (disch := omega) only [w64] at h) <;> (try exact zx)) | (with_reducible intro hz; (try exact absurd hz (Nat.succ_ne_zero _)))))
      refine ⟨i + 1, by omega, hlt, ?_⟩
      (repeat' ((try (conv => whnf)); first | (with_reducible first | refine And.intro ?_ ?_ | refine WX.of ?_) | exact zc | ((with_reducible refine VC.mk ?_); exact zw) | (with_reducible first | refine splitT ?_ | refine splitF ?_) | ((with_reducible refine splitM.mk (fun hsm => ?_) (fun hsm => ?_)) <;> (try exact zx)) | ((with_reducible refine splitB.mk (fun h => ?_) (fun h => ?_)) <;> (try simp only [zs, ne_eq] at h) <;> (try simp (disch := omega) only [w64] at h) <;> (try exact zx)) | (with_reducible intro hz; (try exact absurd hz (Nat.succ_ne_zero _)))))
      have hg : ((seg l s n).map fun a => frT a.1 a.2)[i]? = some (if fOk p q = true then frT p q else []) := by rw [List.getElem?_map, ha, if_pos hf]; rfl
      exact ⟨app_take hg⟩
    · obtain rfl : i = n := by omega
      have hall : ((seg l s i).map fun a => frT a.1 a.2).take i = (seg l s i).map fun a => frT a.1 a.2 := List.take_of_length_le (by rw [List.length_map]; omega)
      have hjl := frsT_len (L := seg l s i)
      rw [hall] at hlen
      rw [hall]
      (repeat' ((try (conv => whnf)); first | (with_reducible first | refine And.intro ?_ ?_ | refine WX.of ?_) | exact zc | ((with_reducible refine VC.mk ?_); exact zw) | (with_reducible first | refine splitT ?_ | refine splitF ?_) | ((with_reducible refine splitM.mk (fun hsm => ?_) (fun hsm => ?_)) <;> (try exact zx)) | ((with_reducible refine splitB.mk (fun h => ?_) (fun h => ?_)) <;> (try simp only [zs, ne_eq] at h) <;> (try simp (disch := omega) only [w64] at h) <;> (try exact zx)) | (with_reducible intro hz; (try exact absurd hz (Nat.succ_ne_zero _)))))
      · exact ⟨hlen.symm, ⟨by omega, by omega⟩, Nat.le_trans hjl (by omega)⟩
end Go.Proofs.YtinaincgimoanaaDoor.Eng
set_option linter.unusedVariables false
set_option linter.unusedSimpArgs false
namespace Go.Proofs.YtinaincgimoanaaDoor.Eng
open Go Go.RowKit
set_option maxRecDepth 100000
end Go.Proofs.YtinaincgimoanaaDoor.Eng
set_option linter.unusedVariables false
set_option linter.unusedSimpArgs false
namespace Go.Proofs.YtinaincgimoanaaDoor.Eng
open Go Go.RowKit
set_option maxRecDepth 100000
abbrev ShT : Type := Int × (Int × Int) × (Int × Int)
def s_toShot : Spec := fun args S => match args, S with
  | [.agg [.int .i64 i, .int .i64 wp, .int .i64 wq, .int .i64 sp, .int .i64 sq]], [] => ⟨True, .agg [.int .i64 i, .int .i64 wp, .int .i64 wq, .int .i64 sp, .int .i64 sq], []⟩
  | _, _ => noSpec
theorem ok_toShot : SpecOk Tryd.prog 44 s_toShot := by
  intro args S h; unfold s_toShot at h ⊢; (split at h <;> first | exact False.elim h | skip)
  dsimp only at h ⊢
  refine funW tabOk (E := [(45, s_toFrac)]) ⟨ok_toFrac, trivial⟩ [] (k := 0) (fn := Tryd.f44) rfl rfl rfl rfl rfl rfl ?_
  (repeat' ((try (conv => whnf)); first | (with_reducible first | refine And.intro ?_ ?_ | refine WX.of ?_) | exact zc | ((with_reducible refine VC.mk ?_); exact zw) | (with_reducible first | refine splitT ?_ | refine splitF ?_) | ((with_reducible refine splitM.mk (fun hsm => ?_) (fun hsm => ?_)) <;> (try exact zx)) | ((with_reducible refine splitB.mk (fun h => ?_) (fun h => ?_)) <;> (try simp only [zs, ne_eq] at h) <;> (try simp (disch := omega) only [w64] at h) <;> (try exact zx)) | (with_reducible intro hz; (try exact absurd hz (Nat.succ_ne_zero _)))))
end Go.Proofs.YtinaincgimoanaaDoor.Eng
set_option linter.unusedVariables false
set_option linter.unusedSimpArgs false
namespace Go.Proofs.YtinaincgimoanaaDoor.Eng
open Go Go.RowKit
set_option maxRecDepth 100000
/-- Fractions that may fail. -/
abbrev FrT : Type := Int × Int
end Go.Proofs.YtinaincgimoanaaDoor.Eng
set_option linter.unusedVariables false
set_option linter.unusedSimpArgs false
namespace Go.Proofs.YtinaincgimoanaaDoor.Eng
open Go Go.RowKit
set_option maxRecDepth 100000
end Go.Proofs.YtinaincgimoanaaDoor.Eng
set_option linter.unusedVariables false
set_option linter.unusedSimpArgs false
namespace Go.Proofs.YtinaincgimoanaaDoor.Eng
open Go Go.RowKit
set_option maxRecDepth 100000
/-- Two fractions that may fail. -/
def z2 (o : Option (FrT × FrT)) : FrT × FrT := o.getD ((0, 0), (0, 0))
end Go.Proofs.YtinaincgimoanaaDoor.Eng
set_option linter.unusedVariables false
set_option linter.unusedSimpArgs false
namespace Go.Proofs.YtinaincgimoanaaDoor.Eng
open Go Go.RowKit
set_option maxRecDepth 100000
end Go.Proofs.YtinaincgimoanaaDoor.Eng
set_option linter.unusedVariables false
set_option linter.unusedSimpArgs false
namespace Go.Proofs.YtinaincgimoanaaDoor.Eng
open Go Go.RowKit
set_option maxRecDepth 100000
end Go.Proofs.YtinaincgimoanaaDoor.Eng
set_option linter.unusedVariables false
set_option linter.unusedSimpArgs false
namespace Go.Proofs.YtinaincgimoanaaDoor.Eng
open Go Go.RowKit
set_option maxRecDepth 100000
end Go.Proofs.YtinaincgimoanaaDoor.Eng
set_option linter.unusedVariables false
set_option linter.unusedSimpArgs false
namespace Go.Proofs.YtinaincgimoanaaDoor.Eng
open Go Go.RowKit
set_option maxRecDepth 100000
end Go.Proofs.YtinaincgimoanaaDoor.Eng
set_option linter.unusedVariables false
set_option linter.unusedSimpArgs false
namespace Go.Proofs.YtinaincgimoanaaDoor.Eng
open Go Go.RowKit
set_option maxRecDepth 100000
end Go.Proofs.YtinaincgimoanaaDoor.Eng
set_option linter.unusedVariables false
set_option linter.unusedSimpArgs false
namespace Go.Proofs.YtinaincgimoanaaDoor.Eng
open Go Go.RowKit
set_option maxRecDepth 100000
end Go.Proofs.YtinaincgimoanaaDoor.Eng
set_option linter.unusedVariables false
set_option linter.unusedSimpArgs false
namespace Go.Proofs.YtinaincgimoanaaDoor.Eng
open Go Go.RowKit
set_option maxRecDepth 100000
/-- A report: the shot, both readings, the length, the span. -/
abbrev RpT : Type := ShT × FrT × FrT × FrT × FrT × FrT
end Go.Proofs.YtinaincgimoanaaDoor.Eng
set_option linter.unusedVariables false
set_option linter.unusedSimpArgs false
namespace Go.Proofs.YtinaincgimoanaaDoor.Eng
open Go Go.RowKit
set_option maxRecDepth 100000
def s_toSpan : Spec := fun args S => match args, S with
  | [.agg [.int .i64 p, .int .i64 q, .int .i64 r, .int .i64 s]], [] => ⟨True, .agg [.int .i64 p, .int .i64 q, .int .i64 r, .int .i64 s], []⟩
  | _, _ => noSpec
theorem ok_toSpan : SpecOk Tryd.prog 46 s_toSpan := by
  intro args S h; unfold s_toSpan at h ⊢; (split at h <;> first | exact False.elim h | skip)
  dsimp only at h ⊢
  refine funW tabOk (E := [(45, s_toFrac)]) ⟨ok_toFrac, trivial⟩ [] (k := 0) (fn := Tryd.f46) rfl rfl rfl rfl rfl rfl ?_
  (repeat' ((try (conv => whnf)); first | (with_reducible first | refine And.intro ?_ ?_ | refine WX.of ?_) | exact zc | ((with_reducible refine VC.mk ?_); exact zw) | (with_reducible first | refine splitT ?_ | refine splitF ?_) | ((with_reducible refine splitM.mk (fun hsm => ?_) (fun hsm => ?_)) <;> (try exact zx)) | ((with_reducible refine splitB.mk (fun h => ?_) (fun h => ?_)) <;> (try simp only [zs, ne_eq] at h) <;> (try simp (disch := omega) only [w64] at h) <;> (try exact zx)) | (with_reducible intro hz; (try exact absurd hz (Nat.succ_ne_zero _)))))
end Go.Proofs.YtinaincgimoanaaDoor.Eng
set_option linter.unusedVariables false
set_option linter.unusedSimpArgs false
namespace Go.Proofs.YtinaincgimoanaaDoor.Eng
open Go Go.RowKit
set_option maxRecDepth 100000
def s_toReport : Spec := fun args S => match args, S with
  | [.agg [.int .i64 i, .int .i64 wp, .int .i64 wq, .int .i64 sp, .int .i64 sq, .int .i64 fp, .int .i64 fq, .int .i64 kp, .int .i64 kq, .int .i64 lp, .int .i64 lq, .int .i64 ap, .int .i64 aq, .int .i64 zp, .int .i64 zq]], [] => ⟨True, .agg [.int .i64 i, .int .i64 wp, .int .i64 wq, .int .i64 sp, .int .i64 sq, .int .i64 fp, .int .i64 fq, .int .i64 kp, .int .i64 kq, .int .i64 lp, .int .i64 lq, .int .i64 ap, .int .i64 aq, .int .i64 zp, .int .i64 zq], []⟩
  | _, _ => noSpec
set_option maxHeartbeats 3200000 in
theorem ok_toReport : SpecOk Tryd.prog 15 s_toReport := by
  intro args S h; unfold s_toReport at h ⊢; (split at h <;> first | exact False.elim h | skip)
  dsimp only at h ⊢
  refine funW tabOk (E := [(44, s_toShot), (45, s_toFrac), (46, s_toSpan)]) ⟨ok_toShot, ok_toFrac, ok_toSpan, trivial⟩ [] (k := 0) (fn := Tryd.f15) rfl rfl rfl rfl rfl rfl ?_
  (repeat' ((try dsimp only); (try (conv => whnf)); first | (with_reducible first | refine And.intro ?_ ?_ | refine WX.of ?_) | exact zc | ((with_reducible refine VC.mk ?_); exact zw) | (with_reducible first | refine splitT ?_ | refine splitF ?_) | ((with_reducible refine splitM.mk (fun hsm => ?_) (fun hsm => ?_)) <;> (try exact zx)) | ((with_reducible refine splitB.mk (fun h => ?_) (fun h => ?_)) <;> (try simp only [zs, ne_eq] at h) <;> (try simp (disch := omega) only [w64] at h) <;> (try exact zx)) | (with_reducible intro hz; (try exact absurd hz (Nat.succ_ne_zero _)))))
end Go.Proofs.YtinaincgimoanaaDoor.Eng
set_option linter.unusedVariables false
set_option linter.unusedSimpArgs false
namespace Go.Proofs.YtinaincgimoanaaDoor.Eng
open Go Go.RowKit
set_option maxRecDepth 100000
def s_l04Fracs : Spec := fun args S => match args, S with
  | [.sl 0 s n x], [.arr (.prod (.int .i64) (.int .i64)) l 2 wr] => ⟨s + n ≤ l.length ∧ n ≤ 1048576, .bool (allF (seg l s n)), [.arr (.prod (.int .i64) (.int .i64)) l 2 wr]⟩
  | _, _ => noSpec
theorem ok_l04Fracs : SpecOk Tryd.prog 96 s_l04Fracs := by
  intro args S h; unfold s_l04Fracs at h ⊢; (split at h <;> first | exact False.elim h | skip)
  dsimp only at h ⊢
  rename_i s n x l wr
  obtain ⟨h1, h2⟩ := h
  have hL := seg_len h1
  refine funW tabOk (E := [(131, s_fOk)]) ⟨ok_l01Ok, trivial⟩ [] (k := 1) (fn := Tryd.f96) rfl rfl rfl rfl rfl rfl ?_
  (repeat' ((try (conv => whnf)); first | (with_reducible first | refine And.intro ?_ ?_ | refine WX.of ?_) | exact zc | ((with_reducible refine VC.mk ?_); exact zw) | (with_reducible first | refine splitT ?_ | refine splitF ?_) | ((with_reducible refine splitM.mk (fun hsm => ?_) (fun hsm => ?_)) <;> (try exact zx)) | ((with_reducible refine splitB.mk (fun h => ?_) (fun h => ?_)) <;> (try simp only [zs, ne_eq] at h) <;> (try simp (disch := omega) only [w64] at h) <;> (try exact zx)) | (with_reducible intro hz; (try exact absurd hz (Nat.succ_ne_zero _)))))
  refine loopW tabOk (E := [(131, s_fOk)]) ⟨ok_l01Ok, trivial⟩ [] (σ := Nat) (fun i => [(0, .sl 0 s n x), (3, .int .i64 i)]) (fun i => [.arr (.prod (.int .i64) (.int .i64)) l 2 wr]) (fun i => n - i) (fun i => i ≤ n ∧ ∀ (j : Nat) (a : Int × Int), j < i → (seg l s n)[j]? = some a → fOk a.1 a.2 = true) 0 ⟨Nat.zero_le _, fun j a hj => by omega⟩ ?_ ?_
  · (repeat' ((try (conv => whnf)); first | (with_reducible first | refine And.intro ?_ ?_ | refine WX.of ?_) | exact zc | ((with_reducible refine VC.mk ?_); exact zw) | (with_reducible first | refine splitT ?_ | refine splitF ?_) | ((with_reducible refine splitM.mk (fun hsm => ?_) (fun hsm => ?_)) <;> (try exact zx)) | ((with_reducible refine splitB.mk (fun h => ?_) (fun h => ?_)) <;> (try simp only [zs, ne_eq] at h) <;> (try simp (disch := omega) only [w64] at h) <;> (try exact zx)) | (with_reducible intro hz; (try exact absurd hz (Nat.succ_ne_zero _)))))
  · intro i ⟨hi, hp⟩
    by_cases hlt : i < n
    · obtain ⟨⟨p, q⟩, ha⟩ := get_some (l := seg l s n) (i := i) (by omega)
      (repeat' ((try (conv => whnf)); first | (with_reducible first | refine And.intro ?_ ?_ | refine WX.of ?_) | exact zc | ((with_reducible refine VC.mk ?_); exact zw) | with_reducible refine atL_i ha ?_ | (with_reducible first | refine splitT ?_ | refine splitF ?_) | ((with_reducible refine splitM.mk (fun hsm => ?_) (fun hsm => ?_)) <;> (try exact zx)) | ((with_reducible refine splitB.mk (fun h => ?_) (fun h => ?_)) <;> (try simp only [zs, ne_eq] at h) <;> (try simp (disch := omega) only [w64] at h) <;> (try exact zx)) | (with_reducible intro hz; (try exact absurd hz (Nat.succ_ne_zero _)))))
      · exact ⟨by rw [show allF (seg l s n) = false from all_no ha h]⟩
      · refine ⟨i + 1, by omega, ⟨hlt, upto_step ha h hp⟩, ?_⟩
        (repeat' ((try (conv => whnf)); first | (with_reducible first | refine And.intro ?_ ?_ | refine WX.of ?_) | exact zc | ((with_reducible refine VC.mk ?_); exact zw) | (with_reducible first | refine splitT ?_ | refine splitF ?_) | ((with_reducible refine splitM.mk (fun hsm => ?_) (fun hsm => ?_)) <;> (try exact zx)) | ((with_reducible refine splitB.mk (fun h => ?_) (fun h => ?_)) <;> (try simp only [zs, ne_eq] at h) <;> (try simp (disch := omega) only [w64] at h) <;> (try exact zx)) | (with_reducible intro hz; (try exact absurd hz (Nat.succ_ne_zero _)))))
    · (repeat' ((try (conv => whnf)); first | (with_reducible first | refine And.intro ?_ ?_ | refine WX.of ?_) | exact zc | ((with_reducible refine VC.mk ?_); exact zw) | (with_reducible first | refine splitT ?_ | refine splitF ?_) | ((with_reducible refine splitM.mk (fun hsm => ?_) (fun hsm => ?_)) <;> (try exact zx)) | ((with_reducible refine splitB.mk (fun h => ?_) (fun h => ?_)) <;> (try simp only [zs, ne_eq] at h) <;> (try simp (disch := omega) only [w64] at h) <;> (try exact zx)) | (with_reducible intro hz; (try exact absurd hz (Nat.succ_ne_zero _)))))
      exact ⟨by rw [show allF (seg l s n) = true from all_yes (n := i) (by omega) hp]⟩
/-- The span inside a report. -/
def s_l01SpanR : Spec := fun args S => match args, S with
  | [.ptr 0 0 11], [.arr (.prod (.prod (.int .i64) (.prod (.prod (.int .i64) (.int .i64)) (.prod (.int .i64) (.int .i64)))) (.prod (.prod (.int .i64) (.int .i64)) (.prod (.prod (.int .i64) (.int .i64)) (.prod (.prod (.int .i64) (.int .i64)) (.prod (.prod (.int .i64) (.int .i64)) (.prod (.int .i64) (.int .i64))))))) [((i, (wp, wq), sp, sq), (fp, fq), (kp, kq), (lp, lq), (ap, aq), zp, zq)] 0 true] => ⟨True, .bool (spOk ap aq zp zq), [.arr (.prod (.prod (.int .i64) (.prod (.prod (.int .i64) (.int .i64)) (.prod (.int .i64) (.int .i64)))) (.prod (.prod (.int .i64) (.int .i64)) (.prod (.prod (.int .i64) (.int .i64)) (.prod (.prod (.int .i64) (.int .i64)) (.prod (.prod (.int .i64) (.int .i64)) (.prod (.int .i64) (.int .i64))))))) [((i, (wp, wq), sp, sq), (fp, fq), (kp, kq), (lp, lq), (ap, aq), zp, zq)] 0 true]⟩
  | _, _ => noSpec
theorem ok_l01SpanR : SpecOk Tryd.prog 97 s_l01SpanR := by
  intro args S h; unfold s_l01SpanR at h ⊢; (split at h <;> first | exact False.elim h | skip)
  dsimp only at h ⊢
  rename_i i wp wq sp sq fp fq kp kq lp lq ap aq zp zq
  have hc := cmpF_le (p := ap) (q := aq) (p' := zp) (q' := zq)
  refine funW tabOk (E := [(131, s_fOk), (142, s_cmp)]) ⟨ok_l01Ok, ok_l01Cmp, trivial⟩ [] (k := 1) (fn := Tryd.f97) rfl rfl rfl rfl rfl rfl ?_
  (repeat' ((try (conv => whnf)); first | (with_reducible first | refine And.intro ?_ ?_ | refine WX.of ?_) | exact zc | ((with_reducible refine VC.mk ?_); exact zw) | (with_reducible first | refine splitT ?_ | refine splitF ?_) | ((with_reducible refine splitM.mk (fun hsm => ?_) (fun hsm => ?_)) <;> (try exact zx)) | ((with_reducible refine splitB.mk (fun h => ?_) (fun h => ?_)) <;> (try simp only [zs, ne_eq] at h) <;> (try simp (disch := omega) only [w64] at h) <;> (try exact zx)) | (with_reducible intro hz; (try exact absurd hz (Nat.succ_ne_zero _)))))
  all_goals try dsimp only at *
  all_goals first
    | exact ⟨⟨smF_ok ‹fOk ap aq = true›, smF_ok ‹fOk zp zq = true›⟩⟩
    | (refine ⟨congrArg SV.bool ?_⟩; simp [spOk, hc, *]; done)
def rpL (wp wq sp sq fp fq kp kq lp lq : Int) : List (Int × Int) := [(wp, wq), (sp, sq), (fp, fq), (kp, kq), (lp, lq)]
def rpB (i wp wq sp sq fp fq kp kq lp lq ap aq zp zq : Int) : Bool := (decide (0 ≤ i ∧ i ≤ 9) && allF (rpL wp wq sp sq fp fq kp kq lp lq)) && spOk ap aq zp zq
def rpT (i wp wq sp sq fp fq kp kq lp lq ap aq zp zq : Int) : List UInt8 := ((((((((((((dcl i ++ [32]) ++ frT wp wq) ++ [32]) ++ frT sp sq) ++ [32]) ++ frT fp fq) ++ [32]) ++ frT kp kq) ++ [32]) ++ frT lp lq) ++ [32]) ++ spT ap aq zp zq)
structure RpOk (i wp wq sp sq fp fq kp kq lp lq ap aq zp zq : Int) : Prop where
  i : 0 ≤ i ∧ i ≤ 9
  w : fOk wp wq = true
  s : fOk sp sq = true
  f : fOk fp fq = true
  k : fOk kp kq = true
  l : fOk lp lq = true
  o : spOk ap aq zp zq = true
  all : allF (rpL wp wq sp sq fp fq kp kq lp lq) = true
theorem rpOk {i wp wq sp sq fp fq kp kq lp lq ap aq zp zq : Int} (h : rpB i wp wq sp sq fp fq kp kq lp lq ap aq zp zq = true) : RpOk i wp wq sp sq fp fq kp kq lp lq ap aq zp zq := by
  unfold rpB at h
  simp only [Bool.and_eq_true, decide_eq_true_eq] at h
  obtain ⟨⟨h1, h2⟩, h3⟩ := h
  have h4 := h2
  simp only [allF, rpL, List.all_cons, List.all_nil, Bool.and_true, Bool.and_eq_true] at h4
  exact ⟨h1, h4.1, h4.2.1, h4.2.2.1, h4.2.2.2.1, h4.2.2.2.2, h3, h2⟩
theorem rp_i {i wp wq sp sq fp fq kp kq lp lq ap aq zp zq : Int} (h : RpOk i wp wq sp sq fp fq kp kq lp lq ap aq zp zq) : 0 ≤ i ∧ i ≤ 9223372036854775807 := ⟨h.i.1, by have := h.i.2; omega⟩
def s_spTR : Spec := fun args S => match args, S with
  | [.ptr 0 0 11], [.arr (.prod (.prod (.int .i64) (.prod (.prod (.int .i64) (.int .i64)) (.prod (.int .i64) (.int .i64)))) (.prod (.prod (.int .i64) (.int .i64)) (.prod (.prod (.int .i64) (.int .i64)) (.prod (.prod (.int .i64) (.int .i64)) (.prod (.prod (.int .i64) (.int .i64)) (.prod (.int .i64) (.int .i64))))))) [((i, (wp, wq), sp, sq), (fp, fq), (kp, kq), (lp, lq), (ap, aq), zp, zq)] 0 true] => ⟨smF ap aq ∧ smF zp zq, .str (spT ap aq zp zq), [.arr (.prod (.prod (.int .i64) (.prod (.prod (.int .i64) (.int .i64)) (.prod (.int .i64) (.int .i64)))) (.prod (.prod (.int .i64) (.int .i64)) (.prod (.prod (.int .i64) (.int .i64)) (.prod (.prod (.int .i64) (.int .i64)) (.prod (.prod (.int .i64) (.int .i64)) (.prod (.int .i64) (.int .i64))))))) [((i, (wp, wq), sp, sq), (fp, fq), (kp, kq), (lp, lq), (ap, aq), zp, zq)] 0 true]⟩
  | _, _ => noSpec
theorem ok_l01SpanTextR : SpecOk Tryd.prog 99 s_spTR := by
  intro args S h; unfold s_spTR at h ⊢; (split at h <;> first | exact False.elim h | skip)
  dsimp only at h ⊢
  rename_i i wp wq sp sq fp fq kp kq lp lq ap aq zp zq
  obtain ⟨h2, h3⟩ := h
  have l1 := frT_len ap aq
  have l2 := frT_len zp zq
  refine funW tabOk (E := [(98, s_frT)]) ⟨ok_l01Text, trivial⟩ [(1, [(9, 0)])] (k := 1) (fn := Tryd.f99) rfl rfl rfl rfl rfl rfl ?_
  (repeat' ((try (conv => whnf)); first | (with_reducible first | refine And.intro ?_ ?_ | refine WX.of ?_) | exact zc | ((with_reducible refine VC.mk ?_); exact zw) | ((with_reducible refine VC.mk ?_); exact h2) | ((with_reducible refine VC.mk ?_); exact h3) | (with_reducible first | refine splitT ?_ | refine splitF ?_) | ((with_reducible refine splitM.mk (fun hsm => ?_) (fun hsm => ?_)) <;> (try exact zx)) | ((with_reducible refine splitB.mk (fun h => ?_) (fun h => ?_)) <;> (try simp only [zs, ne_eq] at h) <;> (try simp (disch := omega) only [w64] at h) <;> (try exact zx)) | (with_reducible intro hz; (try exact absurd hz (Nat.succ_ne_zero _)))))
  all_goals (refine ⟨?_⟩; simp; omega)
theorem rpB_o {i wp wq sp sq fp fq kp kq lp lq ap aq zp zq : Int} (h : 0 ≤ i ∧ i ≤ 9) (h2 : allF (rpL wp wq sp sq fp fq kp kq lp lq) = true) : rpB i wp wq sp sq fp fq kp kq lp lq ap aq zp zq = spOk ap aq zp zq := by
  unfold rpB; rw [decide_eq_true h, h2]; rfl
theorem rpB_n {i wp wq sp sq fp fq kp kq lp lq ap aq zp zq : Int} (h : ¬ (0 ≤ i ∧ i ≤ 9)) : rpB i wp wq sp sq fp fq kp kq lp lq ap aq zp zq = false := by
  unfold rpB; rw [decide_eq_false h]; rfl
theorem rpB_x {i wp wq sp sq fp fq kp kq lp lq ap aq zp zq : Int} (h : 0 ≤ i ∧ i ≤ 9) (h2 : allF (seg [(wp, wq), (sp, sq), (fp, fq), (kp, kq), (lp, lq)] 0 5) = true) (h3 : spOk ap aq zp zq = true) : rpB i wp wq sp sq fp fq kp kq lp lq ap aq zp zq = true := (rpB_o h h2).trans h3
def s_rpTold : Spec := fun args S => match args, S with
  | [.ptr 0 0 0], [.arr (.prod (.prod (.int .i64) (.prod (.prod (.int .i64) (.int .i64)) (.prod (.int .i64) (.int .i64)))) (.prod (.prod (.int .i64) (.int .i64)) (.prod (.prod (.int .i64) (.int .i64)) (.prod (.prod (.int .i64) (.int .i64)) (.prod (.prod (.int .i64) (.int .i64)) (.prod (.int .i64) (.int .i64))))))) [((i, (wp, wq), sp, sq), (fp, fq), (kp, kq), (lp, lq), (ap, aq), zp, zq)] 0 true] => ⟨True, .bool (rpB i wp wq sp sq fp fq kp kq lp lq ap aq zp zq), [.arr (.prod (.prod (.int .i64) (.prod (.prod (.int .i64) (.int .i64)) (.prod (.int .i64) (.int .i64)))) (.prod (.prod (.int .i64) (.int .i64)) (.prod (.prod (.int .i64) (.int .i64)) (.prod (.prod (.int .i64) (.int .i64)) (.prod (.prod (.int .i64) (.int .i64)) (.prod (.int .i64) (.int .i64))))))) [((i, (wp, wq), sp, sq), (fp, fq), (kp, kq), (lp, lq), (ap, aq), zp, zq)] 0 true]⟩
  | _, _ => noSpec
theorem ok_l07Told : SpecOk Tryd.prog 42 s_rpTold := by
  intro args S h; unfold s_rpTold at h ⊢; (split at h <;> first | exact False.elim h | skip)
  dsimp only at h ⊢
  rename_i i wp wq sp sq fp fq kp kq lp lq ap aq zp zq
  refine funW tabOk (E := [(75, s_within), (96, s_l04Fracs), (97, s_l01SpanR)]) ⟨ok_l00In, ok_l04Fracs, ok_l01SpanR, trivial⟩ [] (k := 1) (fn := Tryd.f42) rfl rfl rfl rfl rfl rfl ?_
  (repeat' ((try (conv => whnf)); first | (with_reducible first | refine And.intro ?_ ?_ | refine WX.of ?_) | exact zc | ((with_reducible refine VC.mk ?_); exact zw) | ((with_reducible refine VC.mk ?_); exact ⟨Nat.le_refl 5, by decide⟩) | (with_reducible first | refine splitT ?_ | refine splitF ?_) | ((with_reducible refine splitM.mk (fun hsm => ?_) (fun hsm => ?_)) <;> (try exact zx)) | ((with_reducible refine splitB.mk (fun h => ?_) (fun h => ?_)) <;> (try simp only [zs, ne_eq] at h) <;> (try simp (disch := omega) only [w64] at h) <;> (try exact zx)) | (with_reducible intro hz; (try exact absurd hz (Nat.succ_ne_zero _)))))
  · rename_i h9
    have h : allF (rpL wp wq sp sq fp fq kp kq lp lq) = true := h
    exact ⟨congrArg SV.bool (rpB_o h9 h).symm⟩
  · have h : allF (rpL wp wq sp sq fp fq kp kq lp lq) = false := h
    exact ⟨congrArg SV.bool (by unfold rpB; rw [h, Bool.and_false, Bool.false_and])⟩
  · exact ⟨congrArg SV.bool (rpB_n h).symm⟩
def s_l07Report : Spec := fun args S => match args, S with
  | [.ptr 0 0 0], [.arr (.prod (.prod (.int .i64) (.prod (.prod (.int .i64) (.int .i64)) (.prod (.int .i64) (.int .i64)))) (.prod (.prod (.int .i64) (.int .i64)) (.prod (.prod (.int .i64) (.int .i64)) (.prod (.prod (.int .i64) (.int .i64)) (.prod (.prod (.int .i64) (.int .i64)) (.prod (.int .i64) (.int .i64))))))) [((i, (wp, wq), sp, sq), (fp, fq), (kp, kq), (lp, lq), (ap, aq), zp, zq)] 0 true] => ⟨rpB i wp wq sp sq fp fq kp kq lp lq ap aq zp zq = true, .str (rpT i wp wq sp sq fp fq kp kq lp lq ap aq zp zq), [.arr (.prod (.prod (.int .i64) (.prod (.prod (.int .i64) (.int .i64)) (.prod (.int .i64) (.int .i64)))) (.prod (.prod (.int .i64) (.int .i64)) (.prod (.prod (.int .i64) (.int .i64)) (.prod (.prod (.int .i64) (.int .i64)) (.prod (.prod (.int .i64) (.int .i64)) (.prod (.int .i64) (.int .i64))))))) [((i, (wp, wq), sp, sq), (fp, fq), (kp, kq), (lp, lq), (ap, aq), zp, zq)] 0 true]⟩
  | _, _ => noSpec
set_option maxHeartbeats 3200000 in
theorem ok_l07Report : SpecOk Tryd.prog 43 s_l07Report := by
  intro args S h; unfold s_l07Report at h ⊢; (split at h <;> first | exact False.elim h | skip)
  dsimp only at h ⊢
  rename_i i wp wq sp sq fp fq kp kq lp lq ap aq zp zq
  have hk := rpOk h
  obtain ⟨v1, v2, v3⟩ := spOk_iff.1 hk.o
  have hi := rp_i hk
  have l0 := decT_19 i
  have l1 := frT_len wp wq
  have l2 := frT_len sp sq
  have l3 := frT_len fp fq
  have l4 := frT_len kp kq
  have l5 := frT_len lp lq
  have l6 := spT_len ap aq zp zq
  refine funW tabOk (E := [(88, s_dcl), (98, s_frT), (99, s_spTR)]) ⟨ok_dcl, ok_l01Text, ok_l01SpanTextR, trivial⟩ [(1, [(11, 0), (19, 0), (19, 1), (26, 0), (26, 1), (26, 2), (33, 0), (33, 1), (33, 2), (33, 3), (40, 0), (40, 1), (40, 2), (40, 3), (40, 4)])] (k := 1) (fn := Tryd.f43) rfl rfl rfl rfl rfl rfl ?_
  (repeat' ((try (conv => whnf)); first | (with_reducible first | refine And.intro ?_ ?_ | refine WX.of ?_) | exact zc | ((with_reducible refine VC.mk ?_); exact zw) | ((with_reducible refine VC.mk ?_); exact hi) | ((with_reducible refine VC.mk ?_); exact smF_ok hk.w) | ((with_reducible refine VC.mk ?_); exact smF_ok hk.s) | ((with_reducible refine VC.mk ?_); exact smF_ok hk.f) | ((with_reducible refine VC.mk ?_); exact smF_ok hk.k) | ((with_reducible refine VC.mk ?_); exact smF_ok hk.l) | ((with_reducible refine VC.mk ?_); exact ⟨smF_ok v1, smF_ok v2⟩) | (with_reducible first | refine splitT ?_ | refine splitF ?_) | ((with_reducible refine splitM.mk (fun hsm => ?_) (fun hsm => ?_)) <;> (try exact zx)) | ((with_reducible refine splitB.mk (fun h => ?_) (fun h => ?_)) <;> (try simp only [zs, ne_eq] at h) <;> (try simp (disch := omega) only [w64] at h) <;> (try exact zx)) | (with_reducible intro hz; (try exact absurd hz (Nat.succ_ne_zero _)))))
  all_goals (refine ⟨?_⟩; simp; omega)
def s_rpx : Spec := fun args S => match args, S with
  | [.agg [.int .i64 i, .int .i64 wp, .int .i64 wq, .int .i64 sp, .int .i64 sq, .int .i64 fp, .int .i64 fq, .int .i64 kp, .int .i64 kq, .int .i64 lp, .int .i64 lq, .int .i64 ap, .int .i64 aq, .int .i64 zp, .int .i64 zq]], [] => ⟨True, .str (if rpB i wp wq sp sq fp fq kp kq lp lq ap aq zp zq = true then rpT i wp wq sp sq fp fq kp kq lp lq ap aq zp zq else []), []⟩
  | _, _ => noSpec
theorem ok_ReportTextS : SpecOk Tryd.prog 14 s_rpx := by
  intro args S h; unfold s_rpx at h ⊢; (split at h <;> first | exact False.elim h | skip)
  dsimp only at h ⊢
  rename_i i wp wq sp sq fp fq kp kq lp lq ap aq zp zq
  refine funW tabOk (E := [(42, s_rpTold), (43, s_l07Report)]) ⟨ok_l07Told, ok_l07Report, trivial⟩ [] (k := 0) (fn := Tryd.f14) rfl rfl rfl rfl rfl rfl ?_
  by_cases hB : rpB i wp wq sp sq fp fq kp kq lp lq ap aq zp zq = true
  · rw [if_pos hB]
    (repeat' ((try (conv => whnf)); first | (with_reducible first | refine And.intro ?_ ?_ | refine WX.of ?_) | exact zc | ((with_reducible refine VC.mk ?_); exact zw) | ((with_reducible refine VC.mk ?_); exact hB) | ((with_reducible refine splitT_of ?_ ?_); (focus (simp only [hB, Bool.not_true, Bool.not_true, Bool.not_false, decide_true, decide_false]; done))) | ((with_reducible refine splitF_of ?_ ?_); (focus (simp only [hB, Bool.not_true, Bool.not_true, Bool.not_false, decide_true, decide_false]; done))) | (with_reducible first | refine splitT ?_ | refine splitF ?_) | ((with_reducible refine splitM.mk (fun hsm => ?_) (fun hsm => ?_)) <;> (try exact zx)) | ((with_reducible refine splitB.mk (fun h => ?_) (fun h => ?_)) <;> (try simp only [zs, ne_eq] at h) <;> (try simp (disch := omega) only [w64] at h) <;> (try exact zx)) | (with_reducible intro hz; (try exact absurd hz (Nat.succ_ne_zero _)))))
  · rw [if_neg hB]
    have hB : rpB i wp wq sp sq fp fq kp kq lp lq ap aq zp zq = false := by simpa using hB
    (repeat' ((try (conv => whnf)); first | (with_reducible first | refine And.intro ?_ ?_ | refine WX.of ?_) | exact zc | ((with_reducible refine VC.mk ?_); exact zw) | ((with_reducible refine splitT_of ?_ ?_); (focus (simp only [hB, Bool.not_false, Bool.not_true, Bool.not_false, decide_true, decide_false]; done))) | ((with_reducible refine splitF_of ?_ ?_); (focus (simp only [hB, Bool.not_false, Bool.not_true, Bool.not_false, decide_true, decide_false]; done))) | (with_reducible first | refine splitT ?_ | refine splitF ?_) | ((with_reducible refine splitM.mk (fun hsm => ?_) (fun hsm => ?_)) <;> (try exact zx)) | ((with_reducible refine splitB.mk (fun h => ?_) (fun h => ?_)) <;> (try simp only [zs, ne_eq] at h) <;> (try simp (disch := omega) only [w64] at h) <;> (try exact zx)) | (with_reducible intro hz; (try exact absurd hz (Nat.succ_ne_zero _)))))
theorem rpT_j {i wp wq sp sq fp fq kp kq lp lq ap aq zp zq : Int} (h : 0 ≤ i) : rpT i wp wq sp sq fp fq kp kq lp lq ap aq zp zq = (((sgT i ++ [32]) ++ frsT (rpL wp wq sp sq fp fq kp kq lp lq)) ++ [32]) ++ spT ap aq zp zq := by
  rw [show sgT i = dcl i from if_neg (by omega)]
  simp [rpT, rpL, frsT, Lib.join, List.intercalate, List.intersperse]
set_option maxHeartbeats 3200000 in
theorem ok_ReportTextI : SpecOk Tryd.prog 16 s_rpx := by
  intro args S h; unfold s_rpx at h ⊢; (split at h <;> first | exact False.elim h | skip)
  dsimp only at h ⊢
  rename_i i wp wq sp sq fp fq kp kq lp lq ap aq zp zq
  refine funW tabOk (E := [(47, s_within), (48, s_allF), (49, s_vSpan), (40, s_sgT), (50, s_frsT), (51, s_spTI)]) ⟨ok_within, ok_areValid, ok_ValidSpan, ok_decI, ok_fracTexts, ok_SpanTextI, trivial⟩ [(3, [(2, 1), (22, 0), (22, 1)])] (k := 0) (fn := Tryd.f16) rfl rfl rfl rfl rfl rfl ?_
  by_cases hB : rpB i wp wq sp sq fp fq kp kq lp lq ap aq zp zq = true
  · rw [if_pos hB]
    have hk := rpOk hB
    have l0 := sgT_20 i
    have l2 := frsT_len (L := rpL wp wq sp sq fp fq kp kq lp lq)
    have l6 := spT_len ap aq zp zq
    have ho := hk.o
    have hin := hk.i
    have hal : allF (seg [(wp, wq), (sp, sq), (fp, fq), (kp, kq), (lp, lq)] 0 5) = true := hk.all
    have l7 : (rpL wp wq sp sq fp fq kp kq lp lq).length = 5 := rfl
    have z1 : (sgT i).length + 1 ≤ 9223372036854775807 := by omega
    have z2 : (sgT i ++ [32]).length + (frsT (rpL wp wq sp sq fp fq kp kq lp lq)).length ≤ 9223372036854775807 := by simp; omega
    have z3 : ((sgT i ++ [32]) ++ frsT (rpL wp wq sp sq fp fq kp kq lp lq)).length + 1 ≤ 9223372036854775807 := by simp; omega
    have z4 : (((sgT i ++ [32]) ++ frsT (rpL wp wq sp sq fp fq kp kq lp lq)) ++ [32]).length + (if spOk ap aq zp zq = true then spT ap aq zp zq else []).length ≤ 9223372036854775807 := by rw [if_pos ho]; simp; omega
    have z5 : SV.str ((((sgT i ++ [32]) ++ frsT (rpL wp wq sp sq fp fq kp kq lp lq)) ++ [32]) ++ (if spOk ap aq zp zq = true then spT ap aq zp zq else [])) = SV.str (rpT i wp wq sp sq fp fq kp kq lp lq ap aq zp zq) := by rw [if_pos ho, rpT_j hin.1]
    (repeat' ((try (conv => whnf)); first | (with_reducible first | refine And.intro ?_ ?_ | refine WX.of ?_) | exact zc | ((with_reducible refine VC.mk ?_); exact zw) | ((with_reducible refine VC.mk ?_); exact ⟨Nat.le_refl 5, by decide⟩) | ((with_reducible refine VC.mk ?_); exact ⟨⟨Nat.le_refl 5, by decide, by decide⟩, hal⟩) | ((with_reducible refine splitT_of ?_ ?_); (focus (simp only [ho, hal, Bool.not_true, Bool.not_true, Bool.not_false, decide_true, decide_false]; done))) | ((with_reducible refine splitF_of ?_ ?_); (focus (simp only [ho, hal, Bool.not_true, Bool.not_true, Bool.not_false, decide_true, decide_false]; done))) | (with_reducible first | refine splitT ?_ | refine splitF ?_) | ((with_reducible refine splitM.mk (fun hsm => ?_) (fun hsm => ?_)) <;> (try exact zx)) | ((with_reducible refine splitB.mk (fun h => ?_) (fun h => ?_)) <;> (try simp only [zs, ne_eq] at h) <;> (try simp (disch := omega) only [w64] at h) <;> (try exact zx)) | (with_reducible intro hz; (try exact absurd hz (Nat.succ_ne_zero _)))))
    all_goals first
      | exact ⟨z1⟩
      | exact ⟨z2⟩
      | exact ⟨z3⟩
      | exact ⟨z4⟩
      | exact ⟨z5⟩
  · rw [if_neg hB]
    have hB : rpB i wp wq sp sq fp fq kp kq lp lq ap aq zp zq = false := by simpa using hB
    (repeat' ((try (conv => whnf)); first | (with_reducible first | refine And.intro ?_ ?_ | refine WX.of ?_) | exact zc | ((with_reducible refine VC.mk ?_); exact zw) | ((with_reducible refine VC.mk ?_); exact ⟨Nat.le_refl 5, by decide⟩) | (with_reducible first | refine splitT ?_ | refine splitF ?_) | ((with_reducible refine splitM.mk (fun hsm => ?_) (fun hsm => ?_)) <;> (try exact zx)) | ((with_reducible refine splitB.mk (fun h => ?_) (fun h => ?_)) <;> (try simp only [zs, ne_eq] at h) <;> (try simp (disch := omega) only [w64] at h) <;> (try exact zx)) | (with_reducible intro hz; (try exact absurd hz (Nat.succ_ne_zero _)))))
    all_goals exact absurd (rpB_x ‹0 ≤ i ∧ i ≤ 9› ‹allF (seg [(wp, wq), (sp, sq), (fp, fq), (kp, kq), (lp, lq)] 0 5) = true› ‹spOk ap aq zp zq = true›) (by rw [hB]; decide)
end Go.Proofs.YtinaincgimoanaaDoor.Eng
set_option linter.unusedVariables false
set_option linter.unusedSimpArgs false
namespace Go.Proofs.YtinaincgimoanaaDoor.Eng
open Go Go.RowKit
set_option maxRecDepth 100000
theorem law_reportText {y : RpT} (ho : ET.Ok (.prod (.prod (.int .i64) (.prod (.prod (.int .i64) (.int .i64)) (.prod (.int .i64) (.int .i64)))) (.prod (.prod (.int .i64) (.int .i64)) (.prod (.prod (.int .i64) (.int .i64)) (.prod (.prod (.int .i64) (.int .i64)) (.prod (.prod (.int .i64) (.int .i64)) (.prod (.int .i64) (.int .i64))))))) y) : RunsS Tryd.prog 4 [.agg (ET.enc (.prod (.prod (.int .i64) (.prod (.prod (.int .i64) (.int .i64)) (.prod (.int .i64) (.int .i64)))) (.prod (.prod (.int .i64) (.int .i64)) (.prod (.prod (.int .i64) (.int .i64)) (.prod (.prod (.int .i64) (.int .i64)) (.prod (.prod (.int .i64) (.int .i64)) (.prod (.int .i64) (.int .i64))))))) y)] [] (.bool true) [] := by
  obtain ⟨⟨i, ⟨wp, wq⟩, sp, sq⟩, ⟨fp, fq⟩, ⟨kp, kq⟩, ⟨lp, lq⟩, ⟨ap, aq⟩, zp, zq⟩ := y
  refine funW tabOk (E := [(15, s_toReport), (14, s_rpx), (16, s_rpx)]) ⟨ok_toReport, ok_ReportTextS, ok_ReportTextI, trivial⟩ [] (k := 0) (fn := Tryd.f4) rfl rfl rfl rfl rfl rfl ?_
  (repeat' ((try dsimp only); (try (conv => whnf)); first | (with_reducible first | refine And.intro ?_ ?_ | refine WX.of ?_) | exact zc | ((with_reducible refine VC.mk ?_); exact zw) | (with_reducible first | refine splitT ?_ | refine splitF ?_) | ((with_reducible refine splitM.mk (fun hsm => ?_) (fun hsm => ?_)) <;> (try exact zx)) | ((with_reducible refine splitB.mk (fun h => ?_) (fun h => ?_)) <;> (try simp only [zs, ne_eq] at h) <;> (try simp (disch := omega) only [w64] at h) <;> (try exact zx)) | (with_reducible intro hz; (try exact absurd hz (Nat.succ_ne_zero _)))))
end Go.Proofs.YtinaincgimoanaaDoor.Eng
