/- Lemmas for the proof, no conditions of their own. -/
import Derived.Test.YtamachahlhlhlaaGreatDoorQA2
import Derived.Test.YtamachahlhlhlaaGreatDoorProg
import Derived.KernelRfl
import Derived.Shelf.Strconv.Itoa4
import Derived.Shelf.Strings.OnBuilder
import Derived.Ground.NamesProg
import Derived.Deep.RegionWith
import Derived.Lib.ParseIntBTie
import Derived.Shelf.Strconv.ErrVarParseInt
import Derived.Shelf.Strings.SplitShaped
import Derived.Lib.SplitLaws
import Derived.Lib.CutLaws
set_option linter.unusedVariables false
set_option linter.unusedSimpArgs false
set_option maxRecDepth 100000
namespace Go.Proofs.YtamachahlhlhlaaGreatDoor.Eng
open Go Go.RowKit
def t_1 : TyD := { und := TypeDesc.func #[] #[] false, size := 1, bytes := 8, zero := [Value.nilFunc], fl := false }
theorem i_1 : TabE Tryz.prog (1, t_1, false) := ⟨by kernel_rfl, fun h => by simp at h⟩
def t_2 : TyD := { und := TypeDesc.int IntKind.i64, size := 1, bytes := 8, zero := [Value.int IntKind.i64 0], fl := true }
theorem i_2 : TabE Tryz.prog (2, t_2, false) := ⟨by kernel_rfl, fun h => by simp at h⟩
def t_3 : TyD := { und := TypeDesc.int IntKind.i64, size := 1, bytes := 8, zero := [Value.int IntKind.i64 0], fl := true }
theorem i_3 : TabE Tryz.prog (3, t_3, false) := ⟨by kernel_rfl, fun h => by simp at h⟩
def t_4 : TyD := { und := TypeDesc.bool, size := 1, bytes := 1, zero := [Value.bool false], fl := true }
theorem i_4 : TabE Tryz.prog (4, t_4, false) := ⟨by kernel_rfl, fun h => by simp at h⟩
def t_5 : TyD := { und := TypeDesc.int IntKind.u8, size := 1, bytes := 1, zero := [Value.int IntKind.u8 0], fl := true }
theorem i_5 : TabE Tryz.prog (5, t_5, false) := ⟨by kernel_rfl, fun h => by simp at h⟩
def t_6 : TyD := { und := TypeDesc.int IntKind.u8, size := 1, bytes := 1, zero := [Value.int IntKind.u8 0], fl := true }
theorem i_6 : TabE Tryz.prog (6, t_6, false) := ⟨by kernel_rfl, fun h => by simp at h⟩
def t_7 : TyD := { und := TypeDesc.struct #[{ name := "x", type := 2, offset := 0, embedded := false, tag := "", pkgPath := "runtime", byteOffset := 0 }, { name := "y", type := 3, offset := 1, embedded := false, tag := "", pkgPath := "runtime", byteOffset := 8 }, { name := "signed", type := 4, offset := 2, embedded := false, tag := "", pkgPath := "runtime", byteOffset := 16 }, { name := "code", type := 6, offset := 3, embedded := false, tag := "", pkgPath := "runtime", byteOffset := 17 }], size := 4, bytes := 24, zero := [Value.int IntKind.i64 0, Value.int IntKind.i64 0, Value.bool false, Value.int IntKind.u8 0], fl := true }
theorem i_7 : TabE Tryz.prog (7, t_7, true) := ⟨by kernel_rfl, fun _ => by kernel_rfl⟩
def t_8 : TyD := { und := TypeDesc.struct #[{ name := "x", type := 2, offset := 0, embedded := false, tag := "", pkgPath := "runtime", byteOffset := 0 }, { name := "y", type := 3, offset := 1, embedded := false, tag := "", pkgPath := "runtime", byteOffset := 8 }, { name := "signed", type := 4, offset := 2, embedded := false, tag := "", pkgPath := "runtime", byteOffset := 16 }, { name := "code", type := 6, offset := 3, embedded := false, tag := "", pkgPath := "runtime", byteOffset := 17 }], size := 4, bytes := 24, zero := [Value.int IntKind.i64 0, Value.int IntKind.i64 0, Value.bool false, Value.int IntKind.u8 0], fl := true }
theorem i_8 : TabE Tryz.prog (8, t_8, true) := ⟨by kernel_rfl, fun _ => by kernel_rfl⟩
def t_9 : TyD := { und := TypeDesc.string, size := 1, bytes := 16, zero := [Value.string ⟨#[]⟩], fl := true }
theorem i_9 : TabE Tryz.prog (9, t_9, false) := ⟨by kernel_rfl, fun h => by simp at h⟩
def t_10 : TyD := { und := TypeDesc.string, size := 1, bytes := 16, zero := [Value.string ⟨#[]⟩], fl := true }
theorem i_10 : TabE Tryz.prog (10, t_10, false) := ⟨by kernel_rfl, fun h => by simp at h⟩
def t_11 : TyD := { und := TypeDesc.string, size := 1, bytes := 16, zero := [Value.string ⟨#[]⟩], fl := true }
theorem i_11 : TabE Tryz.prog (11, t_11, false) := ⟨by kernel_rfl, fun h => by simp at h⟩
def t_12 : TyD := { und := TypeDesc.int IntKind.u64, size := 1, bytes := 8, zero := [Value.int IntKind.u64 0], fl := true }
theorem i_12 : TabE Tryz.prog (12, t_12, false) := ⟨by kernel_rfl, fun h => by simp at h⟩
def t_13 : TyD := { und := TypeDesc.struct #[{ name := "msg", type := 9, offset := 0, embedded := false, tag := "", pkgPath := "runtime", byteOffset := 0 }, { name := "addr", type := 12, offset := 1, embedded := false, tag := "", pkgPath := "runtime", byteOffset := 16 }], size := 2, bytes := 24, zero := [Value.string ⟨#[]⟩, Value.int IntKind.u64 0], fl := true }
theorem i_13 : TabE Tryz.prog (13, t_13, false) := ⟨by kernel_rfl, fun h => by simp at h⟩
def t_14 : TyD := { und := TypeDesc.struct #[{ name := "msg", type := 9, offset := 0, embedded := false, tag := "", pkgPath := "runtime", byteOffset := 0 }, { name := "addr", type := 12, offset := 1, embedded := false, tag := "", pkgPath := "runtime", byteOffset := 16 }], size := 2, bytes := 24, zero := [Value.string ⟨#[]⟩, Value.int IntKind.u64 0], fl := true }
theorem i_14 : TabE Tryz.prog (14, t_14, false) := ⟨by kernel_rfl, fun h => by simp at h⟩
def t_15 : TyD := { und := TypeDesc.pointer 347, size := 1, bytes := 8, zero := [Value.pointer none], fl := false }
theorem i_15 : TabE Tryz.prog (15, t_15, false) := ⟨by kernel_rfl, fun h => by simp at h⟩
def t_16 : TyD := { und := TypeDesc.pointer 350, size := 1, bytes := 8, zero := [Value.pointer none], fl := false }
theorem i_16 : TabE Tryz.prog (16, t_16, false) := ⟨by kernel_rfl, fun h => by simp at h⟩
def t_17 : TyD := { und := TypeDesc.pointer 358, size := 1, bytes := 8, zero := [Value.pointer none], fl := false }
theorem i_17 : TabE Tryz.prog (17, t_17, false) := ⟨by kernel_rfl, fun h => by simp at h⟩
def t_18 : TyD := { und := TypeDesc.struct #[{ name := "typ", type := 17, offset := 0, embedded := false, tag := "", pkgPath := "internal/runtime/maps", byteOffset := 0 }], size := 1, bytes := 8, zero := [Value.pointer none], fl := false }
theorem i_18 : TabE Tryz.prog (18, t_18, false) := ⟨by kernel_rfl, fun h => by simp at h⟩
def t_19 : TyD := { und := TypeDesc.struct #[{ name := "typ", type := 17, offset := 0, embedded := false, tag := "", pkgPath := "internal/runtime/maps", byteOffset := 0 }], size := 1, bytes := 8, zero := [Value.pointer none], fl := false }
theorem i_19 : TabE Tryz.prog (19, t_19, false) := ⟨by kernel_rfl, fun h => by simp at h⟩
def t_21 : TyD := { und := TypeDesc.int IntKind.i32, size := 1, bytes := 4, zero := [Value.int IntKind.i32 0], fl := true }
theorem i_21 : TabE Tryz.prog (21, t_21, false) := ⟨by kernel_rfl, fun h => by simp at h⟩
def t_22 : TyD := { und := TypeDesc.slice 5, size := 1, bytes := 24, zero := [Value.slice none 0 0], fl := false }
theorem i_22 : TabE Tryz.prog (22, t_22, false) := ⟨by kernel_rfl, fun h => by simp at h⟩
def t_23 : TyD := { und := TypeDesc.func #[22, 22] #[4] false, size := 1, bytes := 8, zero := [Value.nilFunc], fl := false }
theorem i_23 : TabE Tryz.prog (23, t_23, false) := ⟨by kernel_rfl, fun h => by simp at h⟩
def t_24 : TyD := { und := TypeDesc.int IntKind.i16, size := 1, bytes := 2, zero := [Value.int IntKind.i16 0], fl := true }
theorem i_24 : TabE Tryz.prog (24, t_24, false) := ⟨by kernel_rfl, fun h => by simp at h⟩
def t_25 : TyD := { und := TypeDesc.struct #[{ name := "Name", type := 9, offset := 0, embedded := false, tag := "", pkgPath := "", byteOffset := 0 }, { name := "Bias", type := 24, offset := 1, embedded := false, tag := "", pkgPath := "", byteOffset := 16 }, { name := "Unit", type := 24, offset := 2, embedded := false, tag := "", pkgPath := "", byteOffset := 18 }, { name := "Up", type := 4, offset := 3, embedded := false, tag := "", pkgPath := "", byteOffset := 20 }], size := 4, bytes := 24, zero := [Value.string ⟨#[]⟩, Value.int IntKind.i16 0, Value.int IntKind.i16 0, Value.bool false], fl := true }
theorem i_25 : TabE Tryz.prog (25, t_25, true) := ⟨by kernel_rfl, fun _ => by kernel_rfl⟩
def t_26 : TyD := { und := TypeDesc.struct #[{ name := "Name", type := 9, offset := 0, embedded := false, tag := "", pkgPath := "", byteOffset := 0 }, { name := "Bias", type := 24, offset := 1, embedded := false, tag := "", pkgPath := "", byteOffset := 16 }, { name := "Unit", type := 24, offset := 2, embedded := false, tag := "", pkgPath := "", byteOffset := 18 }, { name := "Up", type := 4, offset := 3, embedded := false, tag := "", pkgPath := "", byteOffset := 20 }], size := 4, bytes := 24, zero := [Value.string ⟨#[]⟩, Value.int IntKind.i16 0, Value.int IntKind.i16 0, Value.bool false], fl := true }
theorem i_26 : TabE Tryz.prog (26, t_26, true) := ⟨by kernel_rfl, fun _ => by kernel_rfl⟩
def t_27 : TyD := { und := TypeDesc.func #[22] #[26] false, size := 1, bytes := 8, zero := [Value.nilFunc], fl := false }
theorem i_27 : TabE Tryz.prog (27, t_27, false) := ⟨by kernel_rfl, fun h => by simp at h⟩
def t_28 : TyD := { und := TypeDesc.slice 31, size := 1, bytes := 24, zero := [Value.slice none 0 0], fl := false }
theorem i_28 : TabE Tryz.prog (28, t_28, false) := ⟨by kernel_rfl, fun h => by simp at h⟩
def t_29 : TyD := { und := TypeDesc.func #[22, 2, 2] #[2] false, size := 1, bytes := 8, zero := [Value.nilFunc], fl := false }
theorem i_29 : TabE Tryz.prog (29, t_29, false) := ⟨by kernel_rfl, fun h => by simp at h⟩
def t_30 : TyD := { und := TypeDesc.struct #[{ name := "P", type := 2, offset := 0, embedded := false, tag := "", pkgPath := "", byteOffset := 0 }, { name := "Q", type := 2, offset := 1, embedded := false, tag := "", pkgPath := "", byteOffset := 8 }], size := 2, bytes := 16, zero := [Value.int IntKind.i64 0, Value.int IntKind.i64 0], fl := true }
theorem i_30 : TabE Tryz.prog (30, t_30, true) := ⟨by kernel_rfl, fun _ => by kernel_rfl⟩
def t_31 : TyD := { und := TypeDesc.struct #[{ name := "P", type := 2, offset := 0, embedded := false, tag := "", pkgPath := "", byteOffset := 0 }, { name := "Q", type := 2, offset := 1, embedded := false, tag := "", pkgPath := "", byteOffset := 8 }], size := 2, bytes := 16, zero := [Value.int IntKind.i64 0, Value.int IntKind.i64 0], fl := true }
theorem i_31 : TabE Tryz.prog (31, t_31, true) := ⟨by kernel_rfl, fun _ => by kernel_rfl⟩
def t_32 : TyD := { und := TypeDesc.func #[22] #[31] false, size := 1, bytes := 8, zero := [Value.nilFunc], fl := false }
theorem i_32 : TabE Tryz.prog (32, t_32, false) := ⟨by kernel_rfl, fun h => by simp at h⟩
def t_33 : TyD := { und := TypeDesc.slice 2, size := 1, bytes := 24, zero := [Value.slice none 0 0], fl := false }
theorem i_33 : TabE Tryz.prog (33, t_33, false) := ⟨by kernel_rfl, fun h => by simp at h⟩
def t_35 : TyD := { und := TypeDesc.func #[26, 28] #[33, 2] false, size := 1, bytes := 8, zero := [Value.nilFunc], fl := false }
theorem i_35 : TabE Tryz.prog (35, t_35, false) := ⟨by kernel_rfl, fun h => by simp at h⟩
def t_36 : TyD := { und := TypeDesc.func #[33, 33] #[4] false, size := 1, bytes := 8, zero := [Value.nilFunc], fl := false }
theorem i_36 : TabE Tryz.prog (36, t_36, false) := ⟨by kernel_rfl, fun h => by simp at h⟩
def t_37 : TyD := { und := TypeDesc.func #[26] #[4] false, size := 1, bytes := 8, zero := [Value.nilFunc], fl := false }
theorem i_37 : TabE Tryz.prog (37, t_37, false) := ⟨by kernel_rfl, fun h => by simp at h⟩
def t_38 : TyD := { und := TypeDesc.slice 46, size := 1, bytes := 24, zero := [Value.slice none 0 0], fl := false }
theorem i_38 : TabE Tryz.prog (38, t_38, false) := ⟨by kernel_rfl, fun h => by simp at h⟩
def t_40 : TyD := { und := TypeDesc.func #[26, 33] #[38, 2] false, size := 1, bytes := 8, zero := [Value.nilFunc], fl := false }
theorem i_40 : TabE Tryz.prog (40, t_40, false) := ⟨by kernel_rfl, fun h => by simp at h⟩
def t_42 : TyD := { und := TypeDesc.func #[26, 31] #[2, 2] false, size := 1, bytes := 8, zero := [Value.nilFunc], fl := false }
theorem i_42 : TabE Tryz.prog (42, t_42, false) := ⟨by kernel_rfl, fun h => by simp at h⟩
def t_44 : TyD := { und := TypeDesc.func #[46, 31] #[4, 2] false, size := 1, bytes := 8, zero := [Value.nilFunc], fl := false }
theorem i_44 : TabE Tryz.prog (44, t_44, false) := ⟨by kernel_rfl, fun h => by simp at h⟩
def t_45 : TyD := { und := TypeDesc.struct #[{ name := "Low", type := 31, offset := 0, embedded := false, tag := "", pkgPath := "", byteOffset := 0 }, { name := "High", type := 31, offset := 2, embedded := false, tag := "", pkgPath := "", byteOffset := 16 }], size := 4, bytes := 32, zero := [Value.int IntKind.i64 0, Value.int IntKind.i64 0, Value.int IntKind.i64 0, Value.int IntKind.i64 0], fl := true }
theorem i_45 : TabE Tryz.prog (45, t_45, true) := ⟨by kernel_rfl, fun _ => by kernel_rfl⟩
def t_46 : TyD := { und := TypeDesc.struct #[{ name := "Low", type := 31, offset := 0, embedded := false, tag := "", pkgPath := "", byteOffset := 0 }, { name := "High", type := 31, offset := 2, embedded := false, tag := "", pkgPath := "", byteOffset := 16 }], size := 4, bytes := 32, zero := [Value.int IntKind.i64 0, Value.int IntKind.i64 0, Value.int IntKind.i64 0, Value.int IntKind.i64 0], fl := true }
theorem i_46 : TabE Tryz.prog (46, t_46, true) := ⟨by kernel_rfl, fun _ => by kernel_rfl⟩
def t_47 : TyD := { und := TypeDesc.func #[49, 28, 33] #[4, 2] false, size := 1, bytes := 8, zero := [Value.nilFunc], fl := false }
theorem i_47 : TabE Tryz.prog (47, t_47, false) := ⟨by kernel_rfl, fun h => by simp at h⟩
def t_48 : TyD := { und := TypeDesc.struct #[{ name := "Bias", type := 24, offset := 0, embedded := false, tag := "", pkgPath := "", byteOffset := 0 }, { name := "Unit", type := 24, offset := 1, embedded := false, tag := "", pkgPath := "", byteOffset := 2 }, { name := "Up", type := 4, offset := 2, embedded := false, tag := "", pkgPath := "", byteOffset := 4 }], size := 3, bytes := 6, zero := [Value.int IntKind.i16 0, Value.int IntKind.i16 0, Value.bool false], fl := true }
theorem i_48 : TabE Tryz.prog (48, t_48, true) := ⟨by kernel_rfl, fun _ => by kernel_rfl⟩
def t_49 : TyD := { und := TypeDesc.struct #[{ name := "Bias", type := 24, offset := 0, embedded := false, tag := "", pkgPath := "", byteOffset := 0 }, { name := "Unit", type := 24, offset := 1, embedded := false, tag := "", pkgPath := "", byteOffset := 2 }, { name := "Up", type := 4, offset := 2, embedded := false, tag := "", pkgPath := "", byteOffset := 4 }], size := 3, bytes := 6, zero := [Value.int IntKind.i16 0, Value.int IntKind.i16 0, Value.bool false], fl := true }
theorem i_49 : TabE Tryz.prog (49, t_49, true) := ⟨by kernel_rfl, fun _ => by kernel_rfl⟩
def t_51 : TyD := { und := TypeDesc.func #[28, 33] #[49, 2] false, size := 1, bytes := 8, zero := [Value.nilFunc], fl := false }
theorem i_51 : TabE Tryz.prog (51, t_51, false) := ⟨by kernel_rfl, fun h => by simp at h⟩
def t_52 : TyD := { und := TypeDesc.func #[28, 33] #[2, 2] false, size := 1, bytes := 8, zero := [Value.nilFunc], fl := false }
theorem i_52 : TabE Tryz.prog (52, t_52, false) := ⟨by kernel_rfl, fun h => by simp at h⟩
def t_53 : TyD := { und := TypeDesc.slice 26, size := 1, bytes := 24, zero := [Value.slice none 0 0], fl := false }
theorem i_53 : TabE Tryz.prog (53, t_53, false) := ⟨by kernel_rfl, fun h => by simp at h⟩
def t_55 : TyD := { und := TypeDesc.func #[9] #[53, 2] false, size := 1, bytes := 8, zero := [Value.nilFunc], fl := false }
theorem i_55 : TabE Tryz.prog (55, t_55, false) := ⟨by kernel_rfl, fun h => by simp at h⟩
def t_56 : TyD := { und := TypeDesc.func #[53] #[9] false, size := 1, bytes := 8, zero := [Value.nilFunc], fl := false }
theorem i_56 : TabE Tryz.prog (56, t_56, false) := ⟨by kernel_rfl, fun h => by simp at h⟩
def t_57 : TyD := { und := TypeDesc.func #[53, 28, 33] #[33, 2] false, size := 1, bytes := 8, zero := [Value.nilFunc], fl := false }
theorem i_57 : TabE Tryz.prog (57, t_57, false) := ⟨by kernel_rfl, fun h => by simp at h⟩
def t_59 : TyD := { und := TypeDesc.func #[53, 28, 33] #[2, 2, 2] false, size := 1, bytes := 8, zero := [Value.nilFunc], fl := false }
theorem i_59 : TabE Tryz.prog (59, t_59, false) := ⟨by kernel_rfl, fun h => by simp at h⟩
def t_60 : TyD := { und := TypeDesc.func #[33, 2] #[4] false, size := 1, bytes := 8, zero := [Value.nilFunc], fl := false }
theorem i_60 : TabE Tryz.prog (60, t_60, false) := ⟨by kernel_rfl, fun h => by simp at h⟩
def t_61 : TyD := { und := TypeDesc.func #[22] #[4] false, size := 1, bytes := 8, zero := [Value.nilFunc], fl := false }
theorem i_61 : TabE Tryz.prog (61, t_61, false) := ⟨by kernel_rfl, fun h => by simp at h⟩
def t_62 : TyD := { und := TypeDesc.struct #[{ name := "Unit", type := 31, offset := 0, embedded := false, tag := "", pkgPath := "", byteOffset := 0 }, { name := "Errors", type := 28, offset := 2, embedded := false, tag := "", pkgPath := "", byteOffset := 16 }], size := 3, bytes := 40, zero := [Value.int IntKind.i64 0, Value.int IntKind.i64 0, Value.slice none 0 0], fl := false }
theorem i_62 : TabE Tryz.prog (62, t_62, true) := ⟨by kernel_rfl, fun _ => by kernel_rfl⟩
def t_63 : TyD := { und := TypeDesc.struct #[{ name := "Unit", type := 31, offset := 0, embedded := false, tag := "", pkgPath := "", byteOffset := 0 }, { name := "Errors", type := 28, offset := 2, embedded := false, tag := "", pkgPath := "", byteOffset := 16 }], size := 3, bytes := 40, zero := [Value.int IntKind.i64 0, Value.int IntKind.i64 0, Value.slice none 0 0], fl := false }
theorem i_63 : TabE Tryz.prog (63, t_63, true) := ⟨by kernel_rfl, fun _ => by kernel_rfl⟩
def t_64 : TyD := { und := TypeDesc.struct #[{ name := "Parts", type := 2, offset := 0, embedded := false, tag := "", pkgPath := "", byteOffset := 0 }, { name := "Back", type := 4, offset := 1, embedded := false, tag := "", pkgPath := "", byteOffset := 8 }], size := 2, bytes := 16, zero := [Value.int IntKind.i64 0, Value.bool false], fl := true }
theorem i_64 : TabE Tryz.prog (64, t_64, true) := ⟨by kernel_rfl, fun _ => by kernel_rfl⟩
def t_65 : TyD := { und := TypeDesc.struct #[{ name := "Parts", type := 2, offset := 0, embedded := false, tag := "", pkgPath := "", byteOffset := 0 }, { name := "Back", type := 4, offset := 1, embedded := false, tag := "", pkgPath := "", byteOffset := 8 }], size := 2, bytes := 16, zero := [Value.int IntKind.i64 0, Value.bool false], fl := true }
theorem i_65 : TabE Tryz.prog (65, t_65, true) := ⟨by kernel_rfl, fun _ => by kernel_rfl⟩
def t_66 : TyD := { und := TypeDesc.slice 84, size := 1, bytes := 24, zero := [Value.slice none 0 0], fl := false }
theorem i_66 : TabE Tryz.prog (66, t_66, false) := ⟨by kernel_rfl, fun h => by simp at h⟩
def t_67 : TyD := { und := TypeDesc.struct #[{ name := "Scale", type := 63, offset := 0, embedded := false, tag := "", pkgPath := "", byteOffset := 0 }, { name := "Vernier", type := 65, offset := 3, embedded := false, tag := "", pkgPath := "", byteOffset := 40 }, { name := "Grows", type := 31, offset := 5, embedded := false, tag := "", pkgPath := "", byteOffset := 56 }, { name := "Things", type := 66, offset := 7, embedded := false, tag := "", pkgPath := "", byteOffset := 72 }], size := 8, bytes := 96, zero := [Value.int IntKind.i64 0, Value.int IntKind.i64 0, Value.slice none 0 0, Value.int IntKind.i64 0, Value.bool false, Value.int IntKind.i64 0, Value.int IntKind.i64 0, Value.slice none 0 0], fl := false }
theorem i_67 : TabE Tryz.prog (67, t_67, true) := ⟨by kernel_rfl, fun _ => by kernel_rfl⟩
def t_68 : TyD := { und := TypeDesc.struct #[{ name := "Scale", type := 63, offset := 0, embedded := false, tag := "", pkgPath := "", byteOffset := 0 }, { name := "Vernier", type := 65, offset := 3, embedded := false, tag := "", pkgPath := "", byteOffset := 40 }, { name := "Grows", type := 31, offset := 5, embedded := false, tag := "", pkgPath := "", byteOffset := 56 }, { name := "Things", type := 66, offset := 7, embedded := false, tag := "", pkgPath := "", byteOffset := 72 }], size := 8, bytes := 96, zero := [Value.int IntKind.i64 0, Value.int IntKind.i64 0, Value.slice none 0 0, Value.int IntKind.i64 0, Value.bool false, Value.int IntKind.i64 0, Value.int IntKind.i64 0, Value.slice none 0 0], fl := false }
theorem i_68 : TabE Tryz.prog (68, t_68, true) := ⟨by kernel_rfl, fun _ => by kernel_rfl⟩
def t_69 : TyD := { und := TypeDesc.func #[22] #[68] false, size := 1, bytes := 8, zero := [Value.nilFunc], fl := false }
theorem i_69 : TabE Tryz.prog (69, t_69, false) := ⟨by kernel_rfl, fun h => by simp at h⟩
def t_70 : TyD := { und := TypeDesc.struct #[{ name := "Thing", type := 2, offset := 0, embedded := false, tag := "", pkgPath := "", byteOffset := 0 }, { name := "Warm", type := 31, offset := 1, embedded := false, tag := "", pkgPath := "", byteOffset := 8 }, { name := "Start", type := 31, offset := 3, embedded := false, tag := "", pkgPath := "", byteOffset := 24 }], size := 5, bytes := 40, zero := [Value.int IntKind.i64 0, Value.int IntKind.i64 0, Value.int IntKind.i64 0, Value.int IntKind.i64 0, Value.int IntKind.i64 0], fl := true }
theorem i_70 : TabE Tryz.prog (70, t_70, true) := ⟨by kernel_rfl, fun _ => by kernel_rfl⟩
def t_71 : TyD := { und := TypeDesc.struct #[{ name := "Thing", type := 2, offset := 0, embedded := false, tag := "", pkgPath := "", byteOffset := 0 }, { name := "Warm", type := 31, offset := 1, embedded := false, tag := "", pkgPath := "", byteOffset := 8 }, { name := "Start", type := 31, offset := 3, embedded := false, tag := "", pkgPath := "", byteOffset := 24 }], size := 5, bytes := 40, zero := [Value.int IntKind.i64 0, Value.int IntKind.i64 0, Value.int IntKind.i64 0, Value.int IntKind.i64 0, Value.int IntKind.i64 0], fl := true }
theorem i_71 : TabE Tryz.prog (71, t_71, true) := ⟨by kernel_rfl, fun _ => by kernel_rfl⟩
def t_72 : TyD := { und := TypeDesc.func #[22, 68] #[71] false, size := 1, bytes := 8, zero := [Value.nilFunc], fl := false }
theorem i_72 : TabE Tryz.prog (72, t_72, false) := ⟨by kernel_rfl, fun h => by simp at h⟩
def t_74 : TyD := { und := TypeDesc.func #[9] #[68, 2] false, size := 1, bytes := 8, zero := [Value.nilFunc], fl := false }
theorem i_74 : TabE Tryz.prog (74, t_74, false) := ⟨by kernel_rfl, fun h => by simp at h⟩
def t_75 : TyD := { und := TypeDesc.func #[68] #[9] false, size := 1, bytes := 8, zero := [Value.nilFunc], fl := false }
theorem i_75 : TabE Tryz.prog (75, t_75, false) := ⟨by kernel_rfl, fun h => by simp at h⟩
def t_77 : TyD := { und := TypeDesc.func #[68, 71] #[31, 31, 2] false, size := 1, bytes := 8, zero := [Value.nilFunc], fl := false }
theorem i_77 : TabE Tryz.prog (77, t_77, false) := ⟨by kernel_rfl, fun h => by simp at h⟩
def t_78 : TyD := { und := TypeDesc.struct #[{ name := "Shot", type := 71, offset := 0, embedded := false, tag := "", pkgPath := "", byteOffset := 0 }, { name := "First", type := 31, offset := 5, embedded := false, tag := "", pkgPath := "", byteOffset := 40 }, { name := "Second", type := 31, offset := 7, embedded := false, tag := "", pkgPath := "", byteOffset := 56 }, { name := "Length", type := 31, offset := 9, embedded := false, tag := "", pkgPath := "", byteOffset := 72 }, { name := "Open", type := 46, offset := 11, embedded := false, tag := "", pkgPath := "", byteOffset := 88 }], size := 15, bytes := 120, zero := [Value.int IntKind.i64 0, Value.int IntKind.i64 0, Value.int IntKind.i64 0, Value.int IntKind.i64 0, Value.int IntKind.i64 0, Value.int IntKind.i64 0, Value.int IntKind.i64 0, Value.int IntKind.i64 0, Value.int IntKind.i64 0, Value.int IntKind.i64 0, Value.int IntKind.i64 0, Value.int IntKind.i64 0, Value.int IntKind.i64 0, Value.int IntKind.i64 0, Value.int IntKind.i64 0], fl := true }
theorem i_78 : TabE Tryz.prog (78, t_78, true) := ⟨by kernel_rfl, fun _ => by kernel_rfl⟩
def t_79 : TyD := { und := TypeDesc.struct #[{ name := "Shot", type := 71, offset := 0, embedded := false, tag := "", pkgPath := "", byteOffset := 0 }, { name := "First", type := 31, offset := 5, embedded := false, tag := "", pkgPath := "", byteOffset := 40 }, { name := "Second", type := 31, offset := 7, embedded := false, tag := "", pkgPath := "", byteOffset := 56 }, { name := "Length", type := 31, offset := 9, embedded := false, tag := "", pkgPath := "", byteOffset := 72 }, { name := "Open", type := 46, offset := 11, embedded := false, tag := "", pkgPath := "", byteOffset := 88 }], size := 15, bytes := 120, zero := [Value.int IntKind.i64 0, Value.int IntKind.i64 0, Value.int IntKind.i64 0, Value.int IntKind.i64 0, Value.int IntKind.i64 0, Value.int IntKind.i64 0, Value.int IntKind.i64 0, Value.int IntKind.i64 0, Value.int IntKind.i64 0, Value.int IntKind.i64 0, Value.int IntKind.i64 0, Value.int IntKind.i64 0, Value.int IntKind.i64 0, Value.int IntKind.i64 0, Value.int IntKind.i64 0], fl := true }
theorem i_79 : TabE Tryz.prog (79, t_79, true) := ⟨by kernel_rfl, fun _ => by kernel_rfl⟩
def t_81 : TyD := { und := TypeDesc.func #[68, 71] #[79, 2] false, size := 1, bytes := 8, zero := [Value.nilFunc], fl := false }
theorem i_81 : TabE Tryz.prog (81, t_81, false) := ⟨by kernel_rfl, fun h => by simp at h⟩
def t_82 : TyD := { und := TypeDesc.func #[68, 9] #[2, 2] false, size := 1, bytes := 8, zero := [Value.nilFunc], fl := false }
theorem i_82 : TabE Tryz.prog (82, t_82, false) := ⟨by kernel_rfl, fun h => by simp at h⟩
def t_83 : TyD := { und := TypeDesc.struct #[{ name := "Name", type := 9, offset := 0, embedded := false, tag := "", pkgPath := "", byteOffset := 0 }, { name := "Length", type := 31, offset := 1, embedded := false, tag := "", pkgPath := "", byteOffset := 16 }, { name := "Grows", type := 31, offset := 3, embedded := false, tag := "", pkgPath := "", byteOffset := 32 }], size := 5, bytes := 48, zero := [Value.string ⟨#[]⟩, Value.int IntKind.i64 0, Value.int IntKind.i64 0, Value.int IntKind.i64 0, Value.int IntKind.i64 0], fl := true }
theorem i_83 : TabE Tryz.prog (83, t_83, true) := ⟨by kernel_rfl, fun _ => by kernel_rfl⟩
def t_84 : TyD := { und := TypeDesc.struct #[{ name := "Name", type := 9, offset := 0, embedded := false, tag := "", pkgPath := "", byteOffset := 0 }, { name := "Length", type := 31, offset := 1, embedded := false, tag := "", pkgPath := "", byteOffset := 16 }, { name := "Grows", type := 31, offset := 3, embedded := false, tag := "", pkgPath := "", byteOffset := 32 }], size := 5, bytes := 48, zero := [Value.string ⟨#[]⟩, Value.int IntKind.i64 0, Value.int IntKind.i64 0, Value.int IntKind.i64 0, Value.int IntKind.i64 0], fl := true }
theorem i_84 : TabE Tryz.prog (84, t_84, true) := ⟨by kernel_rfl, fun _ => by kernel_rfl⟩
def t_85 : TyD := { und := TypeDesc.func #[68, 68] #[4] false, size := 1, bytes := 8, zero := [Value.nilFunc], fl := false }
theorem i_85 : TabE Tryz.prog (85, t_85, false) := ⟨by kernel_rfl, fun h => by simp at h⟩
def t_86 : TyD := { und := TypeDesc.func #[68] #[4] false, size := 1, bytes := 8, zero := [Value.nilFunc], fl := false }
theorem i_86 : TabE Tryz.prog (86, t_86, false) := ⟨by kernel_rfl, fun h => by simp at h⟩
def t_87 : TyD := { und := TypeDesc.func #[68, 71] #[4] false, size := 1, bytes := 8, zero := [Value.nilFunc], fl := false }
theorem i_87 : TabE Tryz.prog (87, t_87, false) := ⟨by kernel_rfl, fun h => by simp at h⟩
def t_88 : TyD := { und := TypeDesc.func #[68, 79] #[4, 2] false, size := 1, bytes := 8, zero := [Value.nilFunc], fl := false }
theorem i_88 : TabE Tryz.prog (88, t_88, false) := ⟨by kernel_rfl, fun h => by simp at h⟩
def t_89 : TyD := { und := TypeDesc.func #[9] #[79, 2] false, size := 1, bytes := 8, zero := [Value.nilFunc], fl := false }
theorem i_89 : TabE Tryz.prog (89, t_89, false) := ⟨by kernel_rfl, fun h => by simp at h⟩
def t_90 : TyD := { und := TypeDesc.func #[79] #[9] false, size := 1, bytes := 8, zero := [Value.nilFunc], fl := false }
theorem i_90 : TabE Tryz.prog (90, t_90, false) := ⟨by kernel_rfl, fun h => by simp at h⟩
def t_92 : TyD := { und := TypeDesc.func #[68, 71, 31, 31] #[31, 2] false, size := 1, bytes := 8, zero := [Value.nilFunc], fl := false }
theorem i_92 : TabE Tryz.prog (92, t_92, false) := ⟨by kernel_rfl, fun h => by simp at h⟩
def t_94 : TyD := { und := TypeDesc.func #[68, 71, 31, 31] #[46, 2] false, size := 1, bytes := 8, zero := [Value.nilFunc], fl := false }
theorem i_94 : TabE Tryz.prog (94, t_94, false) := ⟨by kernel_rfl, fun h => by simp at h⟩
def t_95 : TyD := { und := TypeDesc.func #[31, 31] #[4] false, size := 1, bytes := 8, zero := [Value.nilFunc], fl := false }
theorem i_95 : TabE Tryz.prog (95, t_95, false) := ⟨by kernel_rfl, fun h => by simp at h⟩
def t_96 : TyD := { und := TypeDesc.func #[31, 31] #[31, 2] false, size := 1, bytes := 8, zero := [Value.nilFunc], fl := false }
theorem i_96 : TabE Tryz.prog (96, t_96, false) := ⟨by kernel_rfl, fun h => by simp at h⟩
def t_97 : TyD := { und := TypeDesc.slice 105, size := 1, bytes := 24, zero := [Value.slice none 0 0], fl := false }
theorem i_97 : TabE Tryz.prog (97, t_97, false) := ⟨by kernel_rfl, fun h => by simp at h⟩
def t_98 : TyD := { und := TypeDesc.func #[22] #[97] false, size := 1, bytes := 8, zero := [Value.nilFunc], fl := false }
theorem i_98 : TabE Tryz.prog (98, t_98, false) := ⟨by kernel_rfl, fun h => by simp at h⟩
def t_100 : TyD := { und := TypeDesc.func #[9] #[97, 2] false, size := 1, bytes := 8, zero := [Value.nilFunc], fl := false }
theorem i_100 : TabE Tryz.prog (100, t_100, false) := ⟨by kernel_rfl, fun h => by simp at h⟩
def t_101 : TyD := { und := TypeDesc.func #[97] #[9] false, size := 1, bytes := 8, zero := [Value.nilFunc], fl := false }
theorem i_101 : TabE Tryz.prog (101, t_101, false) := ⟨by kernel_rfl, fun h => by simp at h⟩
def t_102 : TyD := { und := TypeDesc.func #[97, 97] #[4] false, size := 1, bytes := 8, zero := [Value.nilFunc], fl := false }
theorem i_102 : TabE Tryz.prog (102, t_102, false) := ⟨by kernel_rfl, fun h => by simp at h⟩
def t_103 : TyD := { und := TypeDesc.func #[97] #[4] false, size := 1, bytes := 8, zero := [Value.nilFunc], fl := false }
theorem i_103 : TabE Tryz.prog (103, t_103, false) := ⟨by kernel_rfl, fun h => by simp at h⟩
def t_104 : TyD := { und := TypeDesc.struct #[{ name := "Name", type := 9, offset := 0, embedded := false, tag := "", pkgPath := "", byteOffset := 0 }, { name := "From", type := 2, offset := 1, embedded := false, tag := "", pkgPath := "", byteOffset := 16 }, { name := "Value", type := 46, offset := 2, embedded := false, tag := "", pkgPath := "", byteOffset := 24 }, { name := "Drift", type := 31, offset := 6, embedded := false, tag := "", pkgPath := "", byteOffset := 56 }, { name := "Made", type := 2, offset := 8, embedded := false, tag := "", pkgPath := "", byteOffset := 72 }, { name := "Good", type := 2, offset := 9, embedded := false, tag := "", pkgPath := "", byteOffset := 80 }], size := 10, bytes := 88, zero := [Value.string ⟨#[]⟩, Value.int IntKind.i64 0, Value.int IntKind.i64 0, Value.int IntKind.i64 0, Value.int IntKind.i64 0, Value.int IntKind.i64 0, Value.int IntKind.i64 0, Value.int IntKind.i64 0, Value.int IntKind.i64 0, Value.int IntKind.i64 0], fl := true }
theorem i_104 : TabE Tryz.prog (104, t_104, true) := ⟨by kernel_rfl, fun _ => by kernel_rfl⟩
def t_105 : TyD := { und := TypeDesc.struct #[{ name := "Name", type := 9, offset := 0, embedded := false, tag := "", pkgPath := "", byteOffset := 0 }, { name := "From", type := 2, offset := 1, embedded := false, tag := "", pkgPath := "", byteOffset := 16 }, { name := "Value", type := 46, offset := 2, embedded := false, tag := "", pkgPath := "", byteOffset := 24 }, { name := "Drift", type := 31, offset := 6, embedded := false, tag := "", pkgPath := "", byteOffset := 56 }, { name := "Made", type := 2, offset := 8, embedded := false, tag := "", pkgPath := "", byteOffset := 72 }, { name := "Good", type := 2, offset := 9, embedded := false, tag := "", pkgPath := "", byteOffset := 80 }], size := 10, bytes := 88, zero := [Value.string ⟨#[]⟩, Value.int IntKind.i64 0, Value.int IntKind.i64 0, Value.int IntKind.i64 0, Value.int IntKind.i64 0, Value.int IntKind.i64 0, Value.int IntKind.i64 0, Value.int IntKind.i64 0, Value.int IntKind.i64 0, Value.int IntKind.i64 0], fl := true }
theorem i_105 : TabE Tryz.prog (105, t_105, true) := ⟨by kernel_rfl, fun _ => by kernel_rfl⟩
def t_106 : TyD := { und := TypeDesc.func #[97, 2] #[33, 2] false, size := 1, bytes := 8, zero := [Value.nilFunc], fl := false }
theorem i_106 : TabE Tryz.prog (106, t_106, false) := ⟨by kernel_rfl, fun h => by simp at h⟩
def t_107 : TyD := { und := TypeDesc.func #[97, 9] #[2, 2] false, size := 1, bytes := 8, zero := [Value.nilFunc], fl := false }
theorem i_107 : TabE Tryz.prog (107, t_107, false) := ⟨by kernel_rfl, fun h => by simp at h⟩
def t_108 : TyD := { und := TypeDesc.func #[97, 2] #[2, 2] false, size := 1, bytes := 8, zero := [Value.nilFunc], fl := false }
theorem i_108 : TabE Tryz.prog (108, t_108, false) := ⟨by kernel_rfl, fun h => by simp at h⟩
def t_109 : TyD := { und := TypeDesc.func #[97, 2, 2] #[46, 2] false, size := 1, bytes := 8, zero := [Value.nilFunc], fl := false }
theorem i_109 : TabE Tryz.prog (109, t_109, false) := ⟨by kernel_rfl, fun h => by simp at h⟩
def t_110 : TyD := { und := TypeDesc.func #[46] #[4] false, size := 1, bytes := 8, zero := [Value.nilFunc], fl := false }
theorem i_110 : TabE Tryz.prog (110, t_110, false) := ⟨by kernel_rfl, fun h => by simp at h⟩
def t_111 : TyD := { und := TypeDesc.func #[46] #[31, 2] false, size := 1, bytes := 8, zero := [Value.nilFunc], fl := false }
theorem i_111 : TabE Tryz.prog (111, t_111, false) := ⟨by kernel_rfl, fun h => by simp at h⟩
def t_112 : TyD := { und := TypeDesc.func #[46, 46] #[46, 2] false, size := 1, bytes := 8, zero := [Value.nilFunc], fl := false }
theorem i_112 : TabE Tryz.prog (112, t_112, false) := ⟨by kernel_rfl, fun h => by simp at h⟩
def t_113 : TyD := { und := TypeDesc.func #[31, 31] #[2, 2] false, size := 1, bytes := 8, zero := [Value.nilFunc], fl := false }
theorem i_113 : TabE Tryz.prog (113, t_113, false) := ⟨by kernel_rfl, fun h => by simp at h⟩
def t_114 : TyD := { und := TypeDesc.func #[97, 3] #[3] false, size := 1, bytes := 8, zero := [Value.nilFunc], fl := false }
theorem i_114 : TabE Tryz.prog (114, t_114, false) := ⟨by kernel_rfl, fun h => by simp at h⟩
def t_115 : TyD := { und := TypeDesc.func #[9] #[4] false, size := 1, bytes := 8, zero := [Value.nilFunc], fl := false }
theorem i_115 : TabE Tryz.prog (115, t_115, false) := ⟨by kernel_rfl, fun h => by simp at h⟩
def t_116 : TyD := { und := TypeDesc.func #[68, 3] #[3] false, size := 1, bytes := 8, zero := [Value.nilFunc], fl := false }
theorem i_116 : TabE Tryz.prog (116, t_116, false) := ⟨by kernel_rfl, fun h => by simp at h⟩
def t_117 : TyD := { und := TypeDesc.func #[118] #[26] false, size := 1, bytes := 8, zero := [Value.nilFunc], fl := false }
theorem i_117 : TabE Tryz.prog (117, t_117, false) := ⟨by kernel_rfl, fun h => by simp at h⟩
def t_118 : TyD := { und := TypeDesc.pointer 216, size := 1, bytes := 8, zero := [Value.pointer none], fl := false }
theorem i_118 : TabE Tryz.prog (118, t_118, false) := ⟨by kernel_rfl, fun h => by simp at h⟩
def t_119 : TyD := { und := TypeDesc.func #[22] #[118] false, size := 1, bytes := 8, zero := [Value.nilFunc], fl := false }
theorem i_119 : TabE Tryz.prog (119, t_119, false) := ⟨by kernel_rfl, fun h => by simp at h⟩
def t_120 : TyD := { und := TypeDesc.func #[2] #[2] false, size := 1, bytes := 8, zero := [Value.nilFunc], fl := false }
theorem i_120 : TabE Tryz.prog (120, t_120, false) := ⟨by kernel_rfl, fun h => by simp at h⟩
def t_121 : TyD := { und := TypeDesc.func #[2, 2] #[31, 2] false, size := 1, bytes := 8, zero := [Value.nilFunc], fl := false }
theorem i_121 : TabE Tryz.prog (121, t_121, false) := ⟨by kernel_rfl, fun h => by simp at h⟩
def t_122 : TyD := { und := TypeDesc.func #[33] #[2] false, size := 1, bytes := 8, zero := [Value.nilFunc], fl := false }
theorem i_122 : TabE Tryz.prog (122, t_122, false) := ⟨by kernel_rfl, fun h => by simp at h⟩
def t_123 : TyD := { und := TypeDesc.func #[28] #[4] true, size := 1, bytes := 8, zero := [Value.nilFunc], fl := false }
theorem i_123 : TabE Tryz.prog (123, t_123, false) := ⟨by kernel_rfl, fun h => by simp at h⟩
def t_124 : TyD := { und := TypeDesc.func #[3] #[4] false, size := 1, bytes := 8, zero := [Value.nilFunc], fl := false }
theorem i_124 : TabE Tryz.prog (124, t_124, false) := ⟨by kernel_rfl, fun h => by simp at h⟩
def t_126 : TyD := { und := TypeDesc.func #[] #[49] false, size := 1, bytes := 8, zero := [Value.nilFunc], fl := false }
theorem i_126 : TabE Tryz.prog (126, t_126, false) := ⟨by kernel_rfl, fun h => by simp at h⟩
def t_127 : TyD := { und := TypeDesc.func #[31] #[2, 4] false, size := 1, bytes := 8, zero := [Value.nilFunc], fl := false }
theorem i_127 : TabE Tryz.prog (127, t_127, false) := ⟨by kernel_rfl, fun h => by simp at h⟩
def t_128 : TyD := { und := TypeDesc.func #[129] #[4] false, size := 1, bytes := 8, zero := [Value.nilFunc], fl := false }
theorem i_128 : TabE Tryz.prog (128, t_128, false) := ⟨by kernel_rfl, fun h => by simp at h⟩
def t_129 : TyD := { und := TypeDesc.pointer 26, size := 1, bytes := 8, zero := [Value.pointer none], fl := false }
theorem i_129 : TabE Tryz.prog (129, t_129, false) := ⟨by kernel_rfl, fun h => by simp at h⟩
def t_130 : TyD := { und := TypeDesc.func #[28] #[4] false, size := 1, bytes := 8, zero := [Value.nilFunc], fl := false }
theorem i_130 : TabE Tryz.prog (130, t_130, false) := ⟨by kernel_rfl, fun h => by simp at h⟩
def t_131 : TyD := { und := TypeDesc.func #[49, 31] #[2] false, size := 1, bytes := 8, zero := [Value.nilFunc], fl := false }
theorem i_131 : TabE Tryz.prog (131, t_131, false) := ⟨by kernel_rfl, fun h => by simp at h⟩
def t_132 : TyD := { und := TypeDesc.func #[129] #[49] false, size := 1, bytes := 8, zero := [Value.nilFunc], fl := false }
theorem i_132 : TabE Tryz.prog (132, t_132, false) := ⟨by kernel_rfl, fun h => by simp at h⟩
def t_133 : TyD := { und := TypeDesc.func #[2] #[4] false, size := 1, bytes := 8, zero := [Value.nilFunc], fl := false }
theorem i_133 : TabE Tryz.prog (133, t_133, false) := ⟨by kernel_rfl, fun h => by simp at h⟩
def t_134 : TyD := { und := TypeDesc.func #[49] #[4] false, size := 1, bytes := 8, zero := [Value.nilFunc], fl := false }
theorem i_134 : TabE Tryz.prog (134, t_134, false) := ⟨by kernel_rfl, fun h => by simp at h⟩
def t_135 : TyD := { und := TypeDesc.func #[33] #[4] false, size := 1, bytes := 8, zero := [Value.nilFunc], fl := false }
theorem i_135 : TabE Tryz.prog (135, t_135, false) := ⟨by kernel_rfl, fun h => by simp at h⟩
def t_136 : TyD := { und := TypeDesc.pointer 138, size := 1, bytes := 8, zero := [Value.pointer none], fl := false }
theorem i_136 : TabE Tryz.prog (136, t_136, false) := ⟨by kernel_rfl, fun h => by simp at h⟩
def t_137 : TyD := { und := TypeDesc.struct #[{ name := "bad", type := 4, offset := 0, embedded := false, tag := "", pkgPath := "loop.example/g01254/impl", byteOffset := 0 }], size := 1, bytes := 1, zero := [Value.bool false], fl := true }
theorem i_137 : TabE Tryz.prog (137, t_137, true) := ⟨by kernel_rfl, fun _ => by kernel_rfl⟩
def t_138 : TyD := { und := TypeDesc.struct #[{ name := "bad", type := 4, offset := 0, embedded := false, tag := "", pkgPath := "loop.example/g01254/impl", byteOffset := 0 }], size := 1, bytes := 1, zero := [Value.bool false], fl := true }
theorem i_138 : TabE Tryz.prog (138, t_138, true) := ⟨by kernel_rfl, fun _ => by kernel_rfl⟩
def t_140 : TyD := { und := TypeDesc.func #[26, 2] #[46, 4] false, size := 1, bytes := 8, zero := [Value.nilFunc], fl := false }
theorem i_140 : TabE Tryz.prog (140, t_140, false) := ⟨by kernel_rfl, fun h => by simp at h⟩
def t_141 : TyD := { und := TypeDesc.func #[31] #[4] false, size := 1, bytes := 8, zero := [Value.nilFunc], fl := false }
theorem i_141 : TabE Tryz.prog (141, t_141, false) := ⟨by kernel_rfl, fun h => by simp at h⟩
def t_142 : TyD := { und := TypeDesc.func #[31, 31] #[2] false, size := 1, bytes := 8, zero := [Value.nilFunc], fl := false }
theorem i_142 : TabE Tryz.prog (142, t_142, false) := ⟨by kernel_rfl, fun h => by simp at h⟩
def t_143 : TyD := { und := TypeDesc.func #[4, 28, 33] #[2] false, size := 1, bytes := 8, zero := [Value.nilFunc], fl := false }
theorem i_143 : TabE Tryz.prog (143, t_143, false) := ⟨by kernel_rfl, fun h => by simp at h⟩
def t_144 : TyD := { und := TypeDesc.func #[28, 33] #[3] false, size := 1, bytes := 8, zero := [Value.nilFunc], fl := false }
theorem i_144 : TabE Tryz.prog (144, t_144, false) := ⟨by kernel_rfl, fun h => by simp at h⟩
def t_145 : TyD := { und := TypeDesc.slice 49, size := 1, bytes := 24, zero := [Value.slice none 0 0], fl := false }
theorem i_145 : TabE Tryz.prog (145, t_145, false) := ⟨by kernel_rfl, fun h => by simp at h⟩
def t_146 : TyD := { und := TypeDesc.func #[28, 33] #[145] false, size := 1, bytes := 8, zero := [Value.nilFunc], fl := false }
theorem i_146 : TabE Tryz.prog (146, t_146, false) := ⟨by kernel_rfl, fun h => by simp at h⟩
def t_147 : TyD := { und := TypeDesc.func #[28, 33] #[2] false, size := 1, bytes := 8, zero := [Value.nilFunc], fl := false }
theorem i_147 : TabE Tryz.prog (147, t_147, false) := ⟨by kernel_rfl, fun h => by simp at h⟩
def t_148 : TyD := { und := TypeDesc.func #[] #[145] false, size := 1, bytes := 8, zero := [Value.nilFunc], fl := false }
theorem i_148 : TabE Tryz.prog (148, t_148, false) := ⟨by kernel_rfl, fun h => by simp at h⟩
def t_149 : TyD := { und := TypeDesc.func #[49, 28, 33] #[4] false, size := 1, bytes := 8, zero := [Value.nilFunc], fl := false }
theorem i_149 : TabE Tryz.prog (149, t_149, false) := ⟨by kernel_rfl, fun h => by simp at h⟩
def t_150 : TyD := { und := TypeDesc.slice 9, size := 1, bytes := 24, zero := [Value.slice none 0 0], fl := false }
theorem i_150 : TabE Tryz.prog (150, t_150, false) := ⟨by kernel_rfl, fun h => by simp at h⟩
def t_152 : TyD := { und := TypeDesc.func #[9] #[150, 4] false, size := 1, bytes := 8, zero := [Value.nilFunc], fl := false }
theorem i_152 : TabE Tryz.prog (152, t_152, false) := ⟨by kernel_rfl, fun h => by simp at h⟩
def t_153 : TyD := { und := TypeDesc.func #[9, 9] #[150] false, size := 1, bytes := 8, zero := [Value.nilFunc], fl := false }
theorem i_153 : TabE Tryz.prog (153, t_153, false) := ⟨by kernel_rfl, fun h => by simp at h⟩
def t_154 : TyD := { und := TypeDesc.func #[2, 2, 2] #[4] false, size := 1, bytes := 8, zero := [Value.nilFunc], fl := false }
theorem i_154 : TabE Tryz.prog (154, t_154, false) := ⟨by kernel_rfl, fun h => by simp at h⟩
def t_155 : TyD := { und := TypeDesc.func #[9] #[2] false, size := 1, bytes := 8, zero := [Value.nilFunc], fl := false }
theorem i_155 : TabE Tryz.prog (155, t_155, false) := ⟨by kernel_rfl, fun h => by simp at h⟩
def t_156 : TyD := { und := TypeDesc.func #[53] #[4] false, size := 1, bytes := 8, zero := [Value.nilFunc], fl := false }
theorem i_156 : TabE Tryz.prog (156, t_156, false) := ⟨by kernel_rfl, fun h => by simp at h⟩
def t_157 : TyD := { und := TypeDesc.func #[150, 9] #[9] false, size := 1, bytes := 8, zero := [Value.nilFunc], fl := false }
theorem i_157 : TabE Tryz.prog (157, t_157, false) := ⟨by kernel_rfl, fun h => by simp at h⟩
def t_158 : TyD := { und := TypeDesc.func #[2] #[9] false, size := 1, bytes := 8, zero := [Value.nilFunc], fl := false }
theorem i_158 : TabE Tryz.prog (158, t_158, false) := ⟨by kernel_rfl, fun h => by simp at h⟩
def t_159 : TyD := { und := TypeDesc.func #[53, 28, 33] #[2] false, size := 1, bytes := 8, zero := [Value.nilFunc], fl := false }
theorem i_159 : TabE Tryz.prog (159, t_159, false) := ⟨by kernel_rfl, fun h => by simp at h⟩
def t_160 : TyD := { und := TypeDesc.func #[118] #[68] false, size := 1, bytes := 8, zero := [Value.nilFunc], fl := false }
theorem i_160 : TabE Tryz.prog (160, t_160, false) := ⟨by kernel_rfl, fun h => by simp at h⟩
def t_161 : TyD := { und := TypeDesc.func #[2] #[31] false, size := 1, bytes := 8, zero := [Value.nilFunc], fl := false }
theorem i_161 : TabE Tryz.prog (161, t_161, false) := ⟨by kernel_rfl, fun h => by simp at h⟩
def t_163 : TyD := { und := TypeDesc.func #[9] #[63, 2] false, size := 1, bytes := 8, zero := [Value.nilFunc], fl := false }
theorem i_163 : TabE Tryz.prog (163, t_163, false) := ⟨by kernel_rfl, fun h => by simp at h⟩
def t_164 : TyD := { und := TypeDesc.func #[9] #[31, 2] false, size := 1, bytes := 8, zero := [Value.nilFunc], fl := false }
theorem i_164 : TabE Tryz.prog (164, t_164, false) := ⟨by kernel_rfl, fun h => by simp at h⟩
def t_165 : TyD := { und := TypeDesc.func #[63] #[9] false, size := 1, bytes := 8, zero := [Value.nilFunc], fl := false }
theorem i_165 : TabE Tryz.prog (165, t_165, false) := ⟨by kernel_rfl, fun h => by simp at h⟩
def t_166 : TyD := { und := TypeDesc.func #[31] #[9] false, size := 1, bytes := 8, zero := [Value.nilFunc], fl := false }
theorem i_166 : TabE Tryz.prog (166, t_166, false) := ⟨by kernel_rfl, fun h => by simp at h⟩
def t_167 : TyD := { und := TypeDesc.func #[28] #[9] true, size := 1, bytes := 8, zero := [Value.nilFunc], fl := false }
theorem i_167 : TabE Tryz.prog (167, t_167, false) := ⟨by kernel_rfl, fun h => by simp at h⟩
def t_168 : TyD := { und := TypeDesc.func #[31, 31] #[31] false, size := 1, bytes := 8, zero := [Value.nilFunc], fl := false }
theorem i_168 : TabE Tryz.prog (168, t_168, false) := ⟨by kernel_rfl, fun h => by simp at h⟩
def t_169 : TyD := { und := TypeDesc.func #[170, 171] #[79, 2] false, size := 1, bytes := 8, zero := [Value.nilFunc], fl := false }
theorem i_169 : TabE Tryz.prog (169, t_169, false) := ⟨by kernel_rfl, fun h => by simp at h⟩
def t_170 : TyD := { und := TypeDesc.pointer 68, size := 1, bytes := 8, zero := [Value.pointer none], fl := false }
theorem i_170 : TabE Tryz.prog (170, t_170, false) := ⟨by kernel_rfl, fun h => by simp at h⟩
def t_171 : TyD := { und := TypeDesc.pointer 71, size := 1, bytes := 8, zero := [Value.pointer none], fl := false }
theorem i_171 : TabE Tryz.prog (171, t_171, false) := ⟨by kernel_rfl, fun h => by simp at h⟩
def t_172 : TyD := { und := TypeDesc.func #[66, 173] #[3] false, size := 1, bytes := 8, zero := [Value.nilFunc], fl := false }
theorem i_172 : TabE Tryz.prog (172, t_172, false) := ⟨by kernel_rfl, fun h => by simp at h⟩
def t_173 : TyD := { und := TypeDesc.func #[84] #[4] false, size := 1, bytes := 8, zero := [Value.nilFunc], fl := false }
theorem i_173 : TabE Tryz.prog (173, t_173, false) := ⟨by kernel_rfl, fun h => by simp at h⟩
def t_174 : TyD := { und := TypeDesc.func #[63, 63] #[4] false, size := 1, bytes := 8, zero := [Value.nilFunc], fl := false }
theorem i_174 : TabE Tryz.prog (174, t_174, false) := ⟨by kernel_rfl, fun h => by simp at h⟩
def t_175 : TyD := { und := TypeDesc.func #[66, 66] #[4] false, size := 1, bytes := 8, zero := [Value.nilFunc], fl := false }
theorem i_175 : TabE Tryz.prog (175, t_175, false) := ⟨by kernel_rfl, fun h => by simp at h⟩
def t_176 : TyD := { und := TypeDesc.func #[66, 173] #[4] false, size := 1, bytes := 8, zero := [Value.nilFunc], fl := false }
theorem i_176 : TabE Tryz.prog (176, t_176, false) := ⟨by kernel_rfl, fun h => by simp at h⟩
def t_177 : TyD := { und := TypeDesc.func #[63] #[4] false, size := 1, bytes := 8, zero := [Value.nilFunc], fl := false }
theorem i_177 : TabE Tryz.prog (177, t_177, false) := ⟨by kernel_rfl, fun h => by simp at h⟩
def t_178 : TyD := { und := TypeDesc.func #[65] #[4] false, size := 1, bytes := 8, zero := [Value.nilFunc], fl := false }
theorem i_178 : TabE Tryz.prog (178, t_178, false) := ⟨by kernel_rfl, fun h => by simp at h⟩
def t_179 : TyD := { und := TypeDesc.func #[68, 2] #[4] false, size := 1, bytes := 8, zero := [Value.nilFunc], fl := false }
theorem i_179 : TabE Tryz.prog (179, t_179, false) := ⟨by kernel_rfl, fun h => by simp at h⟩
def t_180 : TyD := { und := TypeDesc.func #[31] #[31] false, size := 1, bytes := 8, zero := [Value.nilFunc], fl := false }
theorem i_180 : TabE Tryz.prog (180, t_180, false) := ⟨by kernel_rfl, fun h => by simp at h⟩
def t_181 : TyD := { und := TypeDesc.func #[150] #[28] false, size := 1, bytes := 8, zero := [Value.nilFunc], fl := false }
theorem i_181 : TabE Tryz.prog (181, t_181, false) := ⟨by kernel_rfl, fun h => by simp at h⟩
def t_182 : TyD := { und := TypeDesc.func #[9] #[46, 2] false, size := 1, bytes := 8, zero := [Value.nilFunc], fl := false }
theorem i_182 : TabE Tryz.prog (182, t_182, false) := ⟨by kernel_rfl, fun h => by simp at h⟩
def t_183 : TyD := { und := TypeDesc.func #[46] #[9] false, size := 1, bytes := 8, zero := [Value.nilFunc], fl := false }
theorem i_183 : TabE Tryz.prog (183, t_183, false) := ⟨by kernel_rfl, fun h => by simp at h⟩
def t_184 : TyD := { und := TypeDesc.func #[63, 31] #[63, 2] false, size := 1, bytes := 8, zero := [Value.nilFunc], fl := false }
theorem i_184 : TabE Tryz.prog (184, t_184, false) := ⟨by kernel_rfl, fun h => by simp at h⟩
def t_185 : TyD := { und := TypeDesc.func #[63, 65, 31] #[31, 2] false, size := 1, bytes := 8, zero := [Value.nilFunc], fl := false }
theorem i_185 : TabE Tryz.prog (185, t_185, false) := ⟨by kernel_rfl, fun h => by simp at h⟩
def t_186 : TyD := { und := TypeDesc.func #[68, 71, 31, 31] #[2] false, size := 1, bytes := 8, zero := [Value.nilFunc], fl := false }
theorem i_186 : TabE Tryz.prog (186, t_186, false) := ⟨by kernel_rfl, fun h => by simp at h⟩
def t_187 : TyD := { und := TypeDesc.func #[31] #[31, 2] false, size := 1, bytes := 8, zero := [Value.nilFunc], fl := false }
theorem i_187 : TabE Tryz.prog (187, t_187, false) := ⟨by kernel_rfl, fun h => by simp at h⟩
def t_188 : TyD := { und := TypeDesc.func #[68, 71, 31] #[31] false, size := 1, bytes := 8, zero := [Value.nilFunc], fl := false }
theorem i_188 : TabE Tryz.prog (188, t_188, false) := ⟨by kernel_rfl, fun h => by simp at h⟩
def t_189 : TyD := { und := TypeDesc.func #[63, 65] #[31] false, size := 1, bytes := 8, zero := [Value.nilFunc], fl := false }
theorem i_189 : TabE Tryz.prog (189, t_189, false) := ⟨by kernel_rfl, fun h => by simp at h⟩
def t_190 : TyD := { und := TypeDesc.func #[46] #[46, 2] false, size := 1, bytes := 8, zero := [Value.nilFunc], fl := false }
theorem i_190 : TabE Tryz.prog (190, t_190, false) := ⟨by kernel_rfl, fun h => by simp at h⟩
def t_191 : TyD := { und := TypeDesc.func #[118] #[97] false, size := 1, bytes := 8, zero := [Value.nilFunc], fl := false }
theorem i_191 : TabE Tryz.prog (191, t_191, false) := ⟨by kernel_rfl, fun h => by simp at h⟩
def t_192 : TyD := { und := TypeDesc.func #[97, 193] #[3] false, size := 1, bytes := 8, zero := [Value.nilFunc], fl := false }
theorem i_192 : TabE Tryz.prog (192, t_192, false) := ⟨by kernel_rfl, fun h => by simp at h⟩
def t_193 : TyD := { und := TypeDesc.func #[105] #[4] false, size := 1, bytes := 8, zero := [Value.nilFunc], fl := false }
theorem i_193 : TabE Tryz.prog (193, t_193, false) := ⟨by kernel_rfl, fun h => by simp at h⟩
def t_194 : TyD := { und := TypeDesc.func #[97, 193] #[4] false, size := 1, bytes := 8, zero := [Value.nilFunc], fl := false }
theorem i_194 : TabE Tryz.prog (194, t_194, false) := ⟨by kernel_rfl, fun h => by simp at h⟩
def t_195 : TyD := { und := TypeDesc.func #[97, 33, 33] #[2] true, size := 1, bytes := 8, zero := [Value.nilFunc], fl := false }
theorem i_195 : TabE Tryz.prog (195, t_195, false) := ⟨by kernel_rfl, fun h => by simp at h⟩
def t_196 : TyD := { und := TypeDesc.func #[97, 2] #[33] false, size := 1, bytes := 8, zero := [Value.nilFunc], fl := false }
theorem i_196 : TabE Tryz.prog (196, t_196, false) := ⟨by kernel_rfl, fun h => by simp at h⟩
def t_197 : TyD := { und := TypeDesc.func #[97, 2, 2] #[2] false, size := 1, bytes := 8, zero := [Value.nilFunc], fl := false }
theorem i_197 : TabE Tryz.prog (197, t_197, false) := ⟨by kernel_rfl, fun h => by simp at h⟩
def t_198 : TyD := { und := TypeDesc.func #[97, 2, 2] #[46] false, size := 1, bytes := 8, zero := [Value.nilFunc], fl := false }
theorem i_198 : TabE Tryz.prog (198, t_198, false) := ⟨by kernel_rfl, fun h => by simp at h⟩
def t_199 : TyD := { und := TypeDesc.func #[38] #[4] true, size := 1, bytes := 8, zero := [Value.nilFunc], fl := false }
theorem i_199 : TabE Tryz.prog (199, t_199, false) := ⟨by kernel_rfl, fun h => by simp at h⟩
def t_200 : TyD := { und := TypeDesc.func #[9, 5] #[150] false, size := 1, bytes := 8, zero := [Value.nilFunc], fl := false }
theorem i_200 : TabE Tryz.prog (200, t_200, false) := ⟨by kernel_rfl, fun h => by simp at h⟩
def t_201 : TyD := { und := TypeDesc.func #[9] #[46, 4] false, size := 1, bytes := 8, zero := [Value.nilFunc], fl := false }
theorem i_201 : TabE Tryz.prog (201, t_201, false) := ⟨by kernel_rfl, fun h => by simp at h⟩
def t_203 : TyD := { und := TypeDesc.func #[9] #[31, 4] false, size := 1, bytes := 8, zero := [Value.nilFunc], fl := false }
theorem i_203 : TabE Tryz.prog (203, t_203, false) := ⟨by kernel_rfl, fun h => by simp at h⟩
def t_204 : TyD := { und := TypeDesc.func #[9] #[2, 4] false, size := 1, bytes := 8, zero := [Value.nilFunc], fl := false }
theorem i_204 : TabE Tryz.prog (204, t_204, false) := ⟨by kernel_rfl, fun h => by simp at h⟩
def t_205 : TyD := { und := TypeDesc.func #[105, 105] #[4] false, size := 1, bytes := 8, zero := [Value.nilFunc], fl := false }
theorem i_205 : TabE Tryz.prog (205, t_205, false) := ⟨by kernel_rfl, fun h => by simp at h⟩
def t_206 : TyD := { und := TypeDesc.func #[3] #[9] false, size := 1, bytes := 8, zero := [Value.nilFunc], fl := false }
theorem i_206 : TabE Tryz.prog (206, t_206, false) := ⟨by kernel_rfl, fun h => by simp at h⟩
def t_208 : TyD := { und := TypeDesc.func #[150] #[84, 4] false, size := 1, bytes := 8, zero := [Value.nilFunc], fl := false }
theorem i_208 : TabE Tryz.prog (208, t_208, false) := ⟨by kernel_rfl, fun h => by simp at h⟩
def t_209 : TyD := { und := TypeDesc.func #[170] #[4] false, size := 1, bytes := 8, zero := [Value.nilFunc], fl := false }
theorem i_209 : TabE Tryz.prog (209, t_209, false) := ⟨by kernel_rfl, fun h => by simp at h⟩
def t_210 : TyD := { und := TypeDesc.func #[65, 65] #[4] false, size := 1, bytes := 8, zero := [Value.nilFunc], fl := false }
theorem i_210 : TabE Tryz.prog (210, t_210, false) := ⟨by kernel_rfl, fun h => by simp at h⟩
def t_211 : TyD := { und := TypeDesc.func #[63, 3] #[3] false, size := 1, bytes := 8, zero := [Value.nilFunc], fl := false }
theorem i_211 : TabE Tryz.prog (211, t_211, false) := ⟨by kernel_rfl, fun h => by simp at h⟩
def t_212 : TyD := { und := TypeDesc.func #[66, 3] #[3] false, size := 1, bytes := 8, zero := [Value.nilFunc], fl := false }
theorem i_212 : TabE Tryz.prog (212, t_212, false) := ⟨by kernel_rfl, fun h => by simp at h⟩
def t_213 : TyD := { und := TypeDesc.func #[150] #[9] false, size := 1, bytes := 8, zero := [Value.nilFunc], fl := false }
theorem i_213 : TabE Tryz.prog (213, t_213, false) := ⟨by kernel_rfl, fun h => by simp at h⟩
def t_214 : TyD := { und := TypeDesc.int IntKind.u64, size := 1, bytes := 8, zero := [Value.int IntKind.u64 0], fl := true }
theorem i_214 : TabE Tryz.prog (214, t_214, false) := ⟨by kernel_rfl, fun h => by simp at h⟩
def t_215 : TyD := { und := TypeDesc.struct #[{ name := "code", type := 22, offset := 0, embedded := false, tag := "", pkgPath := "loop.example/g01254/spec", byteOffset := 0 }, { name := "at", type := 3, offset := 1, embedded := false, tag := "", pkgPath := "loop.example/g01254/spec", byteOffset := 24 }, { name := "seed", type := 214, offset := 2, embedded := false, tag := "", pkgPath := "loop.example/g01254/spec", byteOffset := 32 }], size := 3, bytes := 40, zero := [Value.slice none 0 0, Value.int IntKind.i64 0, Value.int IntKind.u64 0], fl := false }
theorem i_215 : TabE Tryz.prog (215, t_215, true) := ⟨by kernel_rfl, fun _ => by kernel_rfl⟩
def t_216 : TyD := { und := TypeDesc.struct #[{ name := "code", type := 22, offset := 0, embedded := false, tag := "", pkgPath := "loop.example/g01254/spec", byteOffset := 0 }, { name := "at", type := 3, offset := 1, embedded := false, tag := "", pkgPath := "loop.example/g01254/spec", byteOffset := 24 }, { name := "seed", type := 214, offset := 2, embedded := false, tag := "", pkgPath := "loop.example/g01254/spec", byteOffset := 32 }], size := 3, bytes := 40, zero := [Value.slice none 0 0, Value.int IntKind.i64 0, Value.int IntKind.u64 0], fl := false }
theorem i_216 : TabE Tryz.prog (216, t_216, true) := ⟨by kernel_rfl, fun _ => by kernel_rfl⟩
def t_217 : TyD := { und := TypeDesc.func #[] #[2] false, size := 1, bytes := 8, zero := [Value.nilFunc], fl := false }
theorem i_217 : TabE Tryz.prog (217, t_217, false) := ⟨by kernel_rfl, fun h => by simp at h⟩
def t_218 : TyD := { und := TypeDesc.func #[2, 2] #[2] false, size := 1, bytes := 8, zero := [Value.nilFunc], fl := false }
theorem i_218 : TabE Tryz.prog (218, t_218, false) := ⟨by kernel_rfl, fun h => by simp at h⟩
def t_219 : TyD := { und := TypeDesc.func #[28, 141] #[4] false, size := 1, bytes := 8, zero := [Value.nilFunc], fl := false }
theorem i_219 : TabE Tryz.prog (219, t_219, false) := ⟨by kernel_rfl, fun h => by simp at h⟩
def t_220 : TyD := { und := TypeDesc.func #[33, 133] #[4] false, size := 1, bytes := 8, zero := [Value.nilFunc], fl := false }
theorem i_220 : TabE Tryz.prog (220, t_220, false) := ⟨by kernel_rfl, fun h => by simp at h⟩
def t_221 : TyD := { und := TypeDesc.func #[46, 31] #[46] false, size := 1, bytes := 8, zero := [Value.nilFunc], fl := false }
theorem i_221 : TabE Tryz.prog (221, t_221, false) := ⟨by kernel_rfl, fun h => by simp at h⟩
def t_222 : TyD := { und := TypeDesc.slice 24, size := 1, bytes := 24, zero := [Value.slice none 0 0], fl := false }
theorem i_222 : TabE Tryz.prog (222, t_222, false) := ⟨by kernel_rfl, fun h => by simp at h⟩
def t_223 : TyD := { und := TypeDesc.slice 4, size := 1, bytes := 24, zero := [Value.slice none 0 0], fl := false }
theorem i_223 : TabE Tryz.prog (223, t_223, false) := ⟨by kernel_rfl, fun h => by simp at h⟩
def t_224 : TyD := { und := TypeDesc.func #[49, 28, 33] #[2] false, size := 1, bytes := 8, zero := [Value.nilFunc], fl := false }
theorem i_224 : TabE Tryz.prog (224, t_224, false) := ⟨by kernel_rfl, fun h => by simp at h⟩
def t_225 : TyD := { und := TypeDesc.func #[9, 9, 3, 3] #[150] false, size := 1, bytes := 8, zero := [Value.nilFunc], fl := false }
theorem i_225 : TabE Tryz.prog (225, t_225, false) := ⟨by kernel_rfl, fun h => by simp at h⟩
def t_229 : TyD := { und := TypeDesc.func #[9, 3, 3] #[2, 227] false, size := 1, bytes := 8, zero := [Value.nilFunc], fl := false }
theorem i_229 : TabE Tryz.prog (229, t_229, false) := ⟨by kernel_rfl, fun h => by simp at h⟩
def t_230 : TyD := { und := TypeDesc.func #[53, 37] #[4] false, size := 1, bytes := 8, zero := [Value.nilFunc], fl := false }
theorem i_230 : TabE Tryz.prog (230, t_230, false) := ⟨by kernel_rfl, fun h => by simp at h⟩
def t_231 : TyD := { und := TypeDesc.pointer 233, size := 1, bytes := 8, zero := [Value.pointer none], fl := false }
theorem i_231 : TabE Tryz.prog (231, t_231, false) := ⟨by kernel_rfl, fun h => by simp at h⟩
def t_232 : TyD := { und := TypeDesc.struct #[{ name := "addr", type := 231, offset := 0, embedded := false, tag := "", pkgPath := "strings", byteOffset := 0 }, { name := "buf", type := 22, offset := 1, embedded := false, tag := "", pkgPath := "strings", byteOffset := 8 }], size := 2, bytes := 32, zero := [Value.pointer none, Value.slice none 0 0], fl := false }
theorem i_232 : TabE Tryz.prog (232, t_232, true) := ⟨by kernel_rfl, fun _ => by kernel_rfl⟩
def t_233 : TyD := { und := TypeDesc.struct #[{ name := "addr", type := 231, offset := 0, embedded := false, tag := "", pkgPath := "strings", byteOffset := 0 }, { name := "buf", type := 22, offset := 1, embedded := false, tag := "", pkgPath := "strings", byteOffset := 8 }], size := 2, bytes := 32, zero := [Value.pointer none, Value.slice none 0 0], fl := false }
theorem i_233 : TabE Tryz.prog (233, t_233, true) := ⟨by kernel_rfl, fun _ => by kernel_rfl⟩
def t_234 : TyD := { und := TypeDesc.func #[3] #[] false, size := 1, bytes := 8, zero := [Value.nilFunc], fl := false }
theorem i_234 : TabE Tryz.prog (234, t_234, false) := ⟨by kernel_rfl, fun h => by simp at h⟩
def t_236 : TyD := { und := TypeDesc.func #[9] #[3, 227] false, size := 1, bytes := 8, zero := [Value.nilFunc], fl := false }
theorem i_236 : TabE Tryz.prog (236, t_236, false) := ⟨by kernel_rfl, fun h => by simp at h⟩
def t_237 : TyD := { und := TypeDesc.func #[] #[9] false, size := 1, bytes := 8, zero := [Value.nilFunc], fl := false }
theorem i_237 : TabE Tryz.prog (237, t_237, false) := ⟨by kernel_rfl, fun h => by simp at h⟩
def t_238 : TyD := { und := TypeDesc.func #[2, 3] #[9] false, size := 1, bytes := 8, zero := [Value.nilFunc], fl := false }
theorem i_238 : TabE Tryz.prog (238, t_238, false) := ⟨by kernel_rfl, fun h => by simp at h⟩
def t_239 : TyD := { und := TypeDesc.func #[118, 2] #[63] false, size := 1, bytes := 8, zero := [Value.nilFunc], fl := false }
theorem i_239 : TabE Tryz.prog (239, t_239, false) := ⟨by kernel_rfl, fun h => by simp at h⟩
def t_240 : TyD := { und := TypeDesc.func #[118] #[31] false, size := 1, bytes := 8, zero := [Value.nilFunc], fl := false }
theorem i_240 : TabE Tryz.prog (240, t_240, false) := ⟨by kernel_rfl, fun h => by simp at h⟩
def t_242 : TyD := { und := TypeDesc.func #[9, 9] #[9, 9, 4] false, size := 1, bytes := 8, zero := [Value.nilFunc], fl := false }
theorem i_242 : TabE Tryz.prog (242, t_242, false) := ⟨by kernel_rfl, fun h => by simp at h⟩
def t_243 : TyD := { und := TypeDesc.func #[2, 2] #[31] false, size := 1, bytes := 8, zero := [Value.nilFunc], fl := false }
theorem i_243 : TabE Tryz.prog (243, t_243, false) := ⟨by kernel_rfl, fun h => by simp at h⟩
def t_244 : TyD := { und := TypeDesc.func #[170, 171] #[4] false, size := 1, bytes := 8, zero := [Value.nilFunc], fl := false }
theorem i_244 : TabE Tryz.prog (244, t_244, false) := ⟨by kernel_rfl, fun h => by simp at h⟩
def t_245 : TyD := { und := TypeDesc.func #[170, 171] #[31, 31, 2] false, size := 1, bytes := 8, zero := [Value.nilFunc], fl := false }
theorem i_245 : TabE Tryz.prog (245, t_245, false) := ⟨by kernel_rfl, fun h => by simp at h⟩
def t_246 : TyD := { und := TypeDesc.func #[170, 171, 31, 31] #[31, 2] false, size := 1, bytes := 8, zero := [Value.nilFunc], fl := false }
theorem i_246 : TabE Tryz.prog (246, t_246, false) := ⟨by kernel_rfl, fun h => by simp at h⟩
def t_247 : TyD := { und := TypeDesc.func #[170, 171, 31, 31] #[46, 2] false, size := 1, bytes := 8, zero := [Value.nilFunc], fl := false }
theorem i_247 : TabE Tryz.prog (247, t_247, false) := ⟨by kernel_rfl, fun h => by simp at h⟩
def t_248 : TyD := { und := TypeDesc.func #[28, 28] #[4] false, size := 1, bytes := 8, zero := [Value.nilFunc], fl := false }
theorem i_248 : TabE Tryz.prog (248, t_248, false) := ⟨by kernel_rfl, fun h => by simp at h⟩
def t_249 : TyD := { und := TypeDesc.func #[63, 65, 31] #[2, 2] false, size := 1, bytes := 8, zero := [Value.nilFunc], fl := false }
theorem i_249 : TabE Tryz.prog (249, t_249, false) := ⟨by kernel_rfl, fun h => by simp at h⟩
def t_250 : TyD := { und := TypeDesc.func #[2, 2] #[2, 4] false, size := 1, bytes := 8, zero := [Value.nilFunc], fl := false }
theorem i_250 : TabE Tryz.prog (250, t_250, false) := ⟨by kernel_rfl, fun h => by simp at h⟩
def t_251 : TyD := { und := TypeDesc.func #[] #[31] false, size := 1, bytes := 8, zero := [Value.nilFunc], fl := false }
theorem i_251 : TabE Tryz.prog (251, t_251, false) := ⟨by kernel_rfl, fun h => by simp at h⟩
def t_252 : TyD := { und := TypeDesc.func #[63] #[31] false, size := 1, bytes := 8, zero := [Value.nilFunc], fl := false }
theorem i_252 : TabE Tryz.prog (252, t_252, false) := ⟨by kernel_rfl, fun h => by simp at h⟩
def t_253 : TyD := { und := TypeDesc.func #[] #[150] false, size := 1, bytes := 8, zero := [Value.nilFunc], fl := false }
theorem i_253 : TabE Tryz.prog (253, t_253, false) := ⟨by kernel_rfl, fun h => by simp at h⟩
def t_254 : TyD := { und := TypeDesc.func #[118, 2] #[46] false, size := 1, bytes := 8, zero := [Value.nilFunc], fl := false }
theorem i_254 : TabE Tryz.prog (254, t_254, false) := ⟨by kernel_rfl, fun h => by simp at h⟩
def t_255 : TyD := { und := TypeDesc.func #[118, 2] #[31] false, size := 1, bytes := 8, zero := [Value.nilFunc], fl := false }
theorem i_255 : TabE Tryz.prog (255, t_255, false) := ⟨by kernel_rfl, fun h => by simp at h⟩
def t_256 : TyD := { und := TypeDesc.pointer 105, size := 1, bytes := 8, zero := [Value.pointer none], fl := false }
theorem i_256 : TabE Tryz.prog (256, t_256, false) := ⟨by kernel_rfl, fun h => by simp at h⟩
def t_257 : TyD := { und := TypeDesc.func #[97, 33, 2, 46] #[46] false, size := 1, bytes := 8, zero := [Value.nilFunc], fl := false }
theorem i_257 : TabE Tryz.prog (257, t_257, false) := ⟨by kernel_rfl, fun h => by simp at h⟩
def t_258 : TyD := { und := TypeDesc.func #[] #[46] false, size := 1, bytes := 8, zero := [Value.nilFunc], fl := false }
theorem i_258 : TabE Tryz.prog (258, t_258, false) := ⟨by kernel_rfl, fun h => by simp at h⟩
def t_259 : TyD := { und := TypeDesc.func #[256, 2] #[4] false, size := 1, bytes := 8, zero := [Value.nilFunc], fl := false }
theorem i_259 : TabE Tryz.prog (259, t_259, false) := ⟨by kernel_rfl, fun h => by simp at h⟩
def t_260 : TyD := { und := TypeDesc.func #[97, 33, 46, 2] #[46, 2] false, size := 1, bytes := 8, zero := [Value.nilFunc], fl := false }
theorem i_260 : TabE Tryz.prog (260, t_260, false) := ⟨by kernel_rfl, fun h => by simp at h⟩
def t_261 : TyD := { und := TypeDesc.func #[38, 110] #[4] false, size := 1, bytes := 8, zero := [Value.nilFunc], fl := false }
theorem i_261 : TabE Tryz.prog (261, t_261, false) := ⟨by kernel_rfl, fun h => by simp at h⟩
def t_262 : TyD := { und := TypeDesc.func #[263] #[4] false, size := 1, bytes := 8, zero := [Value.nilFunc], fl := false }
theorem i_262 : TabE Tryz.prog (262, t_262, false) := ⟨by kernel_rfl, fun h => by simp at h⟩
def t_263 : TyD := { und := TypeDesc.pointer 46, size := 1, bytes := 8, zero := [Value.pointer none], fl := false }
theorem i_263 : TabE Tryz.prog (263, t_263, false) := ⟨by kernel_rfl, fun h => by simp at h⟩
def t_264 : TyD := { und := TypeDesc.func #[97, 256] #[4] false, size := 1, bytes := 8, zero := [Value.nilFunc], fl := false }
theorem i_264 : TabE Tryz.prog (264, t_264, false) := ⟨by kernel_rfl, fun h => by simp at h⟩
def t_265 : TyD := { und := TypeDesc.func #[263] #[9] false, size := 1, bytes := 8, zero := [Value.nilFunc], fl := false }
theorem i_265 : TabE Tryz.prog (265, t_265, false) := ⟨by kernel_rfl, fun h => by simp at h⟩
def t_266 : TyD := { und := TypeDesc.func #[46, 46] #[4] false, size := 1, bytes := 8, zero := [Value.nilFunc], fl := false }
theorem i_266 : TabE Tryz.prog (266, t_266, false) := ⟨by kernel_rfl, fun h => by simp at h⟩
def t_267 : TyD := { und := TypeDesc.func #[268] #[4] false, size := 1, bytes := 8, zero := [Value.nilFunc], fl := false }
theorem i_267 : TabE Tryz.prog (267, t_267, false) := ⟨by kernel_rfl, fun h => by simp at h⟩
def t_268 : TyD := { und := TypeDesc.pointer 63, size := 1, bytes := 8, zero := [Value.pointer none], fl := false }
theorem i_268 : TabE Tryz.prog (268, t_268, false) := ⟨by kernel_rfl, fun h => by simp at h⟩
def t_269 : TyD := { und := TypeDesc.func #[270] #[4] false, size := 1, bytes := 8, zero := [Value.nilFunc], fl := false }
theorem i_269 : TabE Tryz.prog (269, t_269, false) := ⟨by kernel_rfl, fun h => by simp at h⟩
def t_270 : TyD := { und := TypeDesc.pointer 65, size := 1, bytes := 8, zero := [Value.pointer none], fl := false }
theorem i_270 : TabE Tryz.prog (270, t_270, false) := ⟨by kernel_rfl, fun h => by simp at h⟩
def t_271 : TyD := { und := TypeDesc.pointer 84, size := 1, bytes := 8, zero := [Value.pointer none], fl := false }
theorem i_271 : TabE Tryz.prog (271, t_271, false) := ⟨by kernel_rfl, fun h => by simp at h⟩
def t_272 : TyD := { und := TypeDesc.func #[31, 2] #[4] false, size := 1, bytes := 8, zero := [Value.nilFunc], fl := false }
theorem i_272 : TabE Tryz.prog (272, t_272, false) := ⟨by kernel_rfl, fun h => by simp at h⟩
def t_273 : TyD := { und := TypeDesc.func #[84, 84] #[4] false, size := 1, bytes := 8, zero := [Value.nilFunc], fl := false }
theorem i_273 : TabE Tryz.prog (273, t_273, false) := ⟨by kernel_rfl, fun h => by simp at h⟩
def t_274 : TyD := { und := TypeDesc.func #[28, 3] #[3] false, size := 1, bytes := 8, zero := [Value.nilFunc], fl := false }
theorem i_274 : TabE Tryz.prog (274, t_274, false) := ⟨by kernel_rfl, fun h => by simp at h⟩
def t_275 : TyD := { und := TypeDesc.int IntKind.u64, size := 1, bytes := 8, zero := [Value.int IntKind.u64 0], fl := true }
theorem i_275 : TabE Tryz.prog (275, t_275, false) := ⟨by kernel_rfl, fun h => by simp at h⟩
def t_276 : TyD := { und := TypeDesc.func #[28, 141] #[3] false, size := 1, bytes := 8, zero := [Value.nilFunc], fl := false }
theorem i_276 : TabE Tryz.prog (276, t_276, false) := ⟨by kernel_rfl, fun h => by simp at h⟩
def t_277 : TyD := { und := TypeDesc.func #[33, 133] #[3] false, size := 1, bytes := 8, zero := [Value.nilFunc], fl := false }
theorem i_277 : TabE Tryz.prog (277, t_277, false) := ⟨by kernel_rfl, fun h => by simp at h⟩
def t_278 : TyD := { und := TypeDesc.func #[9, 3] #[150] false, size := 1, bytes := 8, zero := [Value.nilFunc], fl := false }
theorem i_278 : TabE Tryz.prog (278, t_278, false) := ⟨by kernel_rfl, fun h => by simp at h⟩
def t_279 : TyD := { und := TypeDesc.func #[9, 9] #[3] false, size := 1, bytes := 8, zero := [Value.nilFunc], fl := false }
theorem i_279 : TabE Tryz.prog (279, t_279, false) := ⟨by kernel_rfl, fun h => by simp at h⟩
def t_280 : TyD := { und := TypeDesc.func #[9, 9, 3, 3, 227] #[227] false, size := 1, bytes := 8, zero := [Value.nilFunc], fl := false }
theorem i_280 : TabE Tryz.prog (280, t_280, false) := ⟨by kernel_rfl, fun h => by simp at h⟩
def t_281 : TyD := { und := TypeDesc.func #[53, 37] #[3] false, size := 1, bytes := 8, zero := [Value.nilFunc], fl := false }
theorem i_281 : TabE Tryz.prog (281, t_281, false) := ⟨by kernel_rfl, fun h => by simp at h⟩
def t_282 : TyD := { und := TypeDesc.pointer 5, size := 1, bytes := 8, zero := [Value.pointer none], fl := false }
theorem i_282 : TabE Tryz.prog (282, t_282, false) := ⟨by kernel_rfl, fun h => by simp at h⟩
def t_283 : TyD := { und := TypeDesc.func #[2, 2] #[31, 4] false, size := 1, bytes := 8, zero := [Value.nilFunc], fl := false }
theorem i_283 : TabE Tryz.prog (283, t_283, false) := ⟨by kernel_rfl, fun h => by simp at h⟩
def t_284 : TyD := { und := TypeDesc.array 2 31, size := 4, bytes := 32, zero := [Value.int IntKind.i64 0, Value.int IntKind.i64 0, Value.int IntKind.i64 0, Value.int IntKind.i64 0], fl := true }
theorem i_284 : TabE Tryz.prog (284, t_284, false) := ⟨by kernel_rfl, fun h => by simp at h⟩
def t_285 : TyD := { und := TypeDesc.func #[268, 270, 31] #[31, 2] false, size := 1, bytes := 8, zero := [Value.nilFunc], fl := false }
theorem i_285 : TabE Tryz.prog (285, t_285, false) := ⟨by kernel_rfl, fun h => by simp at h⟩
def t_286 : TyD := { und := TypeDesc.func #[170, 171, 31] #[31, 2] false, size := 1, bytes := 8, zero := [Value.nilFunc], fl := false }
theorem i_286 : TabE Tryz.prog (286, t_286, false) := ⟨by kernel_rfl, fun h => by simp at h⟩
def t_287 : TyD := { und := TypeDesc.func #[268, 270] #[31, 2] false, size := 1, bytes := 8, zero := [Value.nilFunc], fl := false }
theorem i_287 : TabE Tryz.prog (287, t_287, false) := ⟨by kernel_rfl, fun h => by simp at h⟩
def t_288 : TyD := { und := TypeDesc.func #[31, 31] #[46, 2] false, size := 1, bytes := 8, zero := [Value.nilFunc], fl := false }
theorem i_288 : TabE Tryz.prog (288, t_288, false) := ⟨by kernel_rfl, fun h => by simp at h⟩
def t_289 : TyD := { und := TypeDesc.func #[31, 2, 31, 2] #[46, 2] false, size := 1, bytes := 8, zero := [Value.nilFunc], fl := false }
theorem i_289 : TabE Tryz.prog (289, t_289, false) := ⟨by kernel_rfl, fun h => by simp at h⟩
def t_290 : TyD := { und := TypeDesc.func #[63, 65, 31, 2] #[2] false, size := 1, bytes := 8, zero := [Value.nilFunc], fl := false }
theorem i_290 : TabE Tryz.prog (290, t_290, false) := ⟨by kernel_rfl, fun h => by simp at h⟩
def t_291 : TyD := { und := TypeDesc.func #[63, 3] #[31] false, size := 1, bytes := 8, zero := [Value.nilFunc], fl := false }
theorem i_291 : TabE Tryz.prog (291, t_291, false) := ⟨by kernel_rfl, fun h => by simp at h⟩
def t_292 : TyD := { und := TypeDesc.func #[63, 65, 31, 2] #[31] false, size := 1, bytes := 8, zero := [Value.nilFunc], fl := false }
theorem i_292 : TabE Tryz.prog (292, t_292, false) := ⟨by kernel_rfl, fun h => by simp at h⟩
def t_294 : TyD := { und := TypeDesc.func #[63, 31] #[2, 31] false, size := 1, bytes := 8, zero := [Value.nilFunc], fl := false }
theorem i_294 : TabE Tryz.prog (294, t_294, false) := ⟨by kernel_rfl, fun h => by simp at h⟩
def t_295 : TyD := { und := TypeDesc.func #[46, 46] #[46] false, size := 1, bytes := 8, zero := [Value.nilFunc], fl := false }
theorem i_295 : TabE Tryz.prog (295, t_295, false) := ⟨by kernel_rfl, fun h => by simp at h⟩
def t_296 : TyD := { und := TypeDesc.func #[46, 31, 2] #[46, 2] false, size := 1, bytes := 8, zero := [Value.nilFunc], fl := false }
theorem i_296 : TabE Tryz.prog (296, t_296, false) := ⟨by kernel_rfl, fun h => by simp at h⟩
def t_297 : TyD := { und := TypeDesc.func #[38, 110] #[3] false, size := 1, bytes := 8, zero := [Value.nilFunc], fl := false }
theorem i_297 : TabE Tryz.prog (297, t_297, false) := ⟨by kernel_rfl, fun h => by simp at h⟩
def t_298 : TyD := { und := TypeDesc.func #[268, 2] #[31, 2] false, size := 1, bytes := 8, zero := [Value.nilFunc], fl := false }
theorem i_298 : TabE Tryz.prog (298, t_298, false) := ⟨by kernel_rfl, fun h => by simp at h⟩
def t_299 : TyD := { und := TypeDesc.func #[9] #[3] false, size := 1, bytes := 8, zero := [Value.nilFunc], fl := false }
theorem i_299 : TabE Tryz.prog (299, t_299, false) := ⟨by kernel_rfl, fun h => by simp at h⟩
def t_301 : TyD := { und := TypeDesc.func #[9] #[21, 3] false, size := 1, bytes := 8, zero := [Value.nilFunc], fl := false }
theorem i_301 : TabE Tryz.prog (301, t_301, false) := ⟨by kernel_rfl, fun h => by simp at h⟩
def t_302 : TyD := { und := TypeDesc.func #[9, 5] #[3] false, size := 1, bytes := 8, zero := [Value.nilFunc], fl := false }
theorem i_302 : TabE Tryz.prog (302, t_302, false) := ⟨by kernel_rfl, fun h => by simp at h⟩
def t_303 : TyD := { und := TypeDesc.int IntKind.i64, size := 1, bytes := 8, zero := [Value.int IntKind.i64 0], fl := true }
theorem i_303 : TabE Tryz.prog (303, t_303, false) := ⟨by kernel_rfl, fun h => by simp at h⟩
def t_305 : TyD := { und := TypeDesc.func #[9, 3, 3] #[214, 227] false, size := 1, bytes := 8, zero := [Value.nilFunc], fl := false }
theorem i_305 : TabE Tryz.prog (305, t_305, false) := ⟨by kernel_rfl, fun h => by simp at h⟩
def t_306 : TyD := { und := TypeDesc.pointer 324, size := 1, bytes := 8, zero := [Value.pointer none], fl := false }
theorem i_306 : TabE Tryz.prog (306, t_306, false) := ⟨by kernel_rfl, fun h => by simp at h⟩
def t_307 : TyD := { und := TypeDesc.func #[9, 9] #[306] false, size := 1, bytes := 8, zero := [Value.nilFunc], fl := false }
theorem i_307 : TabE Tryz.prog (307, t_307, false) := ⟨by kernel_rfl, fun h => by simp at h⟩
def t_308 : TyD := { und := TypeDesc.func #[9, 9, 3] #[306] false, size := 1, bytes := 8, zero := [Value.nilFunc], fl := false }
theorem i_308 : TabE Tryz.prog (308, t_308, false) := ⟨by kernel_rfl, fun h => by simp at h⟩
def t_309 : TyD := { und := TypeDesc.unsafePointer, size := 1, bytes := 8, zero := [Value.pointer none], fl := false }
theorem i_309 : TabE Tryz.prog (309, t_309, false) := ⟨by kernel_rfl, fun h => by simp at h⟩
def t_310 : TyD := { und := TypeDesc.func #[309] #[309] false, size := 1, bytes := 8, zero := [Value.nilFunc], fl := false }
theorem i_310 : TabE Tryz.prog (310, t_310, false) := ⟨by kernel_rfl, fun h => by simp at h⟩
def t_311 : TyD := { und := TypeDesc.func #[3] #[22] false, size := 1, bytes := 8, zero := [Value.nilFunc], fl := false }
theorem i_311 : TabE Tryz.prog (311, t_311, false) := ⟨by kernel_rfl, fun h => by simp at h⟩
def t_312 : TyD := { und := TypeDesc.array 24 5, size := 24, bytes := 24, zero := [Value.int IntKind.u8 0, Value.int IntKind.u8 0, Value.int IntKind.u8 0, Value.int IntKind.u8 0, Value.int IntKind.u8 0, Value.int IntKind.u8 0, Value.int IntKind.u8 0, Value.int IntKind.u8 0, Value.int IntKind.u8 0, Value.int IntKind.u8 0, Value.int IntKind.u8 0, Value.int IntKind.u8 0, Value.int IntKind.u8 0, Value.int IntKind.u8 0, Value.int IntKind.u8 0, Value.int IntKind.u8 0, Value.int IntKind.u8 0, Value.int IntKind.u8 0, Value.int IntKind.u8 0, Value.int IntKind.u8 0, Value.int IntKind.u8 0, Value.int IntKind.u8 0, Value.int IntKind.u8 0, Value.int IntKind.u8 0], fl := true }
theorem i_312 : TabE Tryz.prog (312, t_312, false) := ⟨by kernel_rfl, fun h => by simp at h⟩
def t_313 : TyD := { und := TypeDesc.func #[214] #[3] false, size := 1, bytes := 8, zero := [Value.nilFunc], fl := false }
theorem i_313 : TabE Tryz.prog (313, t_313, false) := ⟨by kernel_rfl, fun h => by simp at h⟩
def t_314 : TyD := { und := TypeDesc.func #[22, 214] #[] false, size := 1, bytes := 8, zero := [Value.nilFunc], fl := false }
theorem i_314 : TabE Tryz.prog (314, t_314, false) := ⟨by kernel_rfl, fun h => by simp at h⟩
def t_316 : TyD := { und := TypeDesc.func #[22, 214, 3, 4, 4] #[22, 9] false, size := 1, bytes := 8, zero := [Value.nilFunc], fl := false }
theorem i_316 : TabE Tryz.prog (316, t_316, false) := ⟨by kernel_rfl, fun h => by simp at h⟩
def t_317 : TyD := { und := TypeDesc.func #[268, 270, 31] #[2, 2] false, size := 1, bytes := 8, zero := [Value.nilFunc], fl := false }
theorem i_317 : TabE Tryz.prog (317, t_317, false) := ⟨by kernel_rfl, fun h => by simp at h⟩
def t_318 : TyD := { und := TypeDesc.func #[2] #[2, 2] false, size := 1, bytes := 8, zero := [Value.nilFunc], fl := false }
theorem i_318 : TabE Tryz.prog (318, t_318, false) := ⟨by kernel_rfl, fun h => by simp at h⟩
def t_319 : TyD := { und := TypeDesc.func #[268] #[31] false, size := 1, bytes := 8, zero := [Value.nilFunc], fl := false }
theorem i_319 : TabE Tryz.prog (319, t_319, false) := ⟨by kernel_rfl, fun h => by simp at h⟩
def t_320 : TyD := { und := TypeDesc.func #[3] #[3] false, size := 1, bytes := 8, zero := [Value.nilFunc], fl := false }
theorem i_320 : TabE Tryz.prog (320, t_320, false) := ⟨by kernel_rfl, fun h => by simp at h⟩
def t_321 : TyD := { und := TypeDesc.func #[5] #[5] false, size := 1, bytes := 8, zero := [Value.nilFunc], fl := false }
theorem i_321 : TabE Tryz.prog (321, t_321, false) := ⟨by kernel_rfl, fun h => by simp at h⟩
def t_322 : TyD := { und := TypeDesc.func #[9] #[9] false, size := 1, bytes := 8, zero := [Value.nilFunc], fl := false }
theorem i_322 : TabE Tryz.prog (322, t_322, false) := ⟨by kernel_rfl, fun h => by simp at h⟩
def t_323 : TyD := { und := TypeDesc.struct #[{ name := "Func", type := 9, offset := 0, embedded := false, tag := "", pkgPath := "", byteOffset := 0 }, { name := "Num", type := 9, offset := 1, embedded := false, tag := "", pkgPath := "", byteOffset := 16 }, { name := "Err", type := 227, offset := 2, embedded := false, tag := "", pkgPath := "", byteOffset := 32 }], size := 3, bytes := 48, zero := [Value.string ⟨#[]⟩, Value.string ⟨#[]⟩, Value.nilIface], fl := false }
theorem i_323 : TabE Tryz.prog (323, t_323, false) := ⟨by kernel_rfl, fun h => by simp at h⟩
def t_324 : TyD := { und := TypeDesc.struct #[{ name := "Func", type := 9, offset := 0, embedded := false, tag := "", pkgPath := "", byteOffset := 0 }, { name := "Num", type := 9, offset := 1, embedded := false, tag := "", pkgPath := "", byteOffset := 16 }, { name := "Err", type := 227, offset := 2, embedded := false, tag := "", pkgPath := "", byteOffset := 32 }], size := 3, bytes := 48, zero := [Value.string ⟨#[]⟩, Value.string ⟨#[]⟩, Value.nilIface], fl := false }
theorem i_324 : TabE Tryz.prog (324, t_324, false) := ⟨by kernel_rfl, fun h => by simp at h⟩
def t_325 : TyD := { und := TypeDesc.func #[9] #[227] false, size := 1, bytes := 8, zero := [Value.nilFunc], fl := false }
theorem i_325 : TabE Tryz.prog (325, t_325, false) := ⟨by kernel_rfl, fun h => by simp at h⟩
def t_326 : TyD := { und := TypeDesc.func #[4] #[3] false, size := 1, bytes := 8, zero := [Value.nilFunc], fl := false }
theorem i_326 : TabE Tryz.prog (326, t_326, false) := ⟨by kernel_rfl, fun h => by simp at h⟩
def t_327 : TyD := { und := TypeDesc.array 20 214, size := 20, bytes := 160, zero := [Value.int IntKind.u64 0, Value.int IntKind.u64 0, Value.int IntKind.u64 0, Value.int IntKind.u64 0, Value.int IntKind.u64 0, Value.int IntKind.u64 0, Value.int IntKind.u64 0, Value.int IntKind.u64 0, Value.int IntKind.u64 0, Value.int IntKind.u64 0, Value.int IntKind.u64 0, Value.int IntKind.u64 0, Value.int IntKind.u64 0, Value.int IntKind.u64 0, Value.int IntKind.u64 0, Value.int IntKind.u64 0, Value.int IntKind.u64 0, Value.int IntKind.u64 0, Value.int IntKind.u64 0, Value.int IntKind.u64 0], fl := true }
theorem i_327 : TabE Tryz.prog (327, t_327, false) := ⟨by kernel_rfl, fun h => by simp at h⟩
def t_328 : TyD := { und := TypeDesc.int IntKind.u32, size := 1, bytes := 4, zero := [Value.int IntKind.u32 0], fl := true }
theorem i_328 : TabE Tryz.prog (328, t_328, false) := ⟨by kernel_rfl, fun h => by simp at h⟩
def t_329 : TyD := { und := TypeDesc.array 65 5, size := 65, bytes := 65, zero := [Value.int IntKind.u8 0, Value.int IntKind.u8 0, Value.int IntKind.u8 0, Value.int IntKind.u8 0, Value.int IntKind.u8 0, Value.int IntKind.u8 0, Value.int IntKind.u8 0, Value.int IntKind.u8 0, Value.int IntKind.u8 0, Value.int IntKind.u8 0, Value.int IntKind.u8 0, Value.int IntKind.u8 0, Value.int IntKind.u8 0, Value.int IntKind.u8 0, Value.int IntKind.u8 0, Value.int IntKind.u8 0, Value.int IntKind.u8 0, Value.int IntKind.u8 0, Value.int IntKind.u8 0, Value.int IntKind.u8 0, Value.int IntKind.u8 0, Value.int IntKind.u8 0, Value.int IntKind.u8 0, Value.int IntKind.u8 0, Value.int IntKind.u8 0, Value.int IntKind.u8 0, Value.int IntKind.u8 0, Value.int IntKind.u8 0, Value.int IntKind.u8 0, Value.int IntKind.u8 0, Value.int IntKind.u8 0, Value.int IntKind.u8 0, Value.int IntKind.u8 0, Value.int IntKind.u8 0, Value.int IntKind.u8 0, Value.int IntKind.u8 0, Value.int IntKind.u8 0, Value.int IntKind.u8 0, Value.int IntKind.u8 0, Value.int IntKind.u8 0, Value.int IntKind.u8 0, Value.int IntKind.u8 0, Value.int IntKind.u8 0, Value.int IntKind.u8 0, Value.int IntKind.u8 0, Value.int IntKind.u8 0, Value.int IntKind.u8 0, Value.int IntKind.u8 0, Value.int IntKind.u8 0, Value.int IntKind.u8 0, Value.int IntKind.u8 0, Value.int IntKind.u8 0, Value.int IntKind.u8 0, Value.int IntKind.u8 0, Value.int IntKind.u8 0, Value.int IntKind.u8 0, Value.int IntKind.u8 0, Value.int IntKind.u8 0, Value.int IntKind.u8 0, Value.int IntKind.u8 0, Value.int IntKind.u8 0, Value.int IntKind.u8 0, Value.int IntKind.u8 0, Value.int IntKind.u8 0, Value.int IntKind.u8 0], fl := true }
theorem i_329 : TabE Tryz.prog (329, t_329, false) := ⟨by kernel_rfl, fun h => by simp at h⟩
def t_330 : TyD := { und := TypeDesc.func #[275] #[3] false, size := 1, bytes := 8, zero := [Value.nilFunc], fl := false }
theorem i_330 : TabE Tryz.prog (330, t_330, false) := ⟨by kernel_rfl, fun h => by simp at h⟩
def t_331 : TyD := { und := TypeDesc.func #[268, 270, 31, 2] #[31, 2] false, size := 1, bytes := 8, zero := [Value.nilFunc], fl := false }
theorem i_331 : TabE Tryz.prog (331, t_331, false) := ⟨by kernel_rfl, fun h => by simp at h⟩
def t_332 : TyD := { und := TypeDesc.array 256 5, size := 256, bytes := 256, zero := [Value.int IntKind.u8 0, Value.int IntKind.u8 0, Value.int IntKind.u8 0, Value.int IntKind.u8 0, Value.int IntKind.u8 0, Value.int IntKind.u8 0, Value.int IntKind.u8 0, Value.int IntKind.u8 0, Value.int IntKind.u8 0, Value.int IntKind.u8 0, Value.int IntKind.u8 0, Value.int IntKind.u8 0, Value.int IntKind.u8 0, Value.int IntKind.u8 0, Value.int IntKind.u8 0, Value.int IntKind.u8 0, Value.int IntKind.u8 0, Value.int IntKind.u8 0, Value.int IntKind.u8 0, Value.int IntKind.u8 0, Value.int IntKind.u8 0, Value.int IntKind.u8 0, Value.int IntKind.u8 0, Value.int IntKind.u8 0, Value.int IntKind.u8 0, Value.int IntKind.u8 0, Value.int IntKind.u8 0, Value.int IntKind.u8 0, Value.int IntKind.u8 0, Value.int IntKind.u8 0, Value.int IntKind.u8 0, Value.int IntKind.u8 0, Value.int IntKind.u8 0, Value.int IntKind.u8 0, Value.int IntKind.u8 0, Value.int IntKind.u8 0, Value.int IntKind.u8 0, Value.int IntKind.u8 0, Value.int IntKind.u8 0, Value.int IntKind.u8 0, Value.int IntKind.u8 0, Value.int IntKind.u8 0, Value.int IntKind.u8 0, Value.int IntKind.u8 0, Value.int IntKind.u8 0, Value.int IntKind.u8 0, Value.int IntKind.u8 0, Value.int IntKind.u8 0, Value.int IntKind.u8 0, Value.int IntKind.u8 0, Value.int IntKind.u8 0, Value.int IntKind.u8 0, Value.int IntKind.u8 0, Value.int IntKind.u8 0, Value.int IntKind.u8 0, Value.int IntKind.u8 0, Value.int IntKind.u8 0, Value.int IntKind.u8 0, Value.int IntKind.u8 0, Value.int IntKind.u8 0, Value.int IntKind.u8 0, Value.int IntKind.u8 0, Value.int IntKind.u8 0, Value.int IntKind.u8 0, Value.int IntKind.u8 0, Value.int IntKind.u8 0, Value.int IntKind.u8 0, Value.int IntKind.u8 0, Value.int IntKind.u8 0, Value.int IntKind.u8 0, Value.int IntKind.u8 0, Value.int IntKind.u8 0, Value.int IntKind.u8 0, Value.int IntKind.u8 0, Value.int IntKind.u8 0, Value.int IntKind.u8 0, Value.int IntKind.u8 0, Value.int IntKind.u8 0, Value.int IntKind.u8 0, Value.int IntKind.u8 0, Value.int IntKind.u8 0, Value.int IntKind.u8 0, Value.int IntKind.u8 0, Value.int IntKind.u8 0, Value.int IntKind.u8 0, Value.int IntKind.u8 0, Value.int IntKind.u8 0, Value.int IntKind.u8 0, Value.int IntKind.u8 0, Value.int IntKind.u8 0, Value.int IntKind.u8 0, Value.int IntKind.u8 0, Value.int IntKind.u8 0, Value.int IntKind.u8 0, Value.int IntKind.u8 0, Value.int IntKind.u8 0, Value.int IntKind.u8 0, Value.int IntKind.u8 0, Value.int IntKind.u8 0, Value.int IntKind.u8 0, Value.int IntKind.u8 0, Value.int IntKind.u8 0, Value.int IntKind.u8 0, Value.int IntKind.u8 0, Value.int IntKind.u8 0, Value.int IntKind.u8 0, Value.int IntKind.u8 0, Value.int IntKind.u8 0, Value.int IntKind.u8 0, Value.int IntKind.u8 0, Value.int IntKind.u8 0, Value.int IntKind.u8 0, Value.int IntKind.u8 0, Value.int IntKind.u8 0, Value.int IntKind.u8 0, Value.int IntKind.u8 0, Value.int IntKind.u8 0, Value.int IntKind.u8 0, Value.int IntKind.u8 0, Value.int IntKind.u8 0, Value.int IntKind.u8 0, Value.int IntKind.u8 0, Value.int IntKind.u8 0, Value.int IntKind.u8 0, Value.int IntKind.u8 0, Value.int IntKind.u8 0, Value.int IntKind.u8 0, Value.int IntKind.u8 0, Value.int IntKind.u8 0, Value.int IntKind.u8 0, Value.int IntKind.u8 0, Value.int IntKind.u8 0, Value.int IntKind.u8 0, Value.int IntKind.u8 0, Value.int IntKind.u8 0, Value.int IntKind.u8 0, Value.int IntKind.u8 0, Value.int IntKind.u8 0, Value.int IntKind.u8 0, Value.int IntKind.u8 0, Value.int IntKind.u8 0, Value.int IntKind.u8 0, Value.int IntKind.u8 0, Value.int IntKind.u8 0, Value.int IntKind.u8 0, Value.int IntKind.u8 0, Value.int IntKind.u8 0, Value.int IntKind.u8 0, Value.int IntKind.u8 0, Value.int IntKind.u8 0, Value.int IntKind.u8 0, Value.int IntKind.u8 0, Value.int IntKind.u8 0, Value.int IntKind.u8 0, Value.int IntKind.u8 0, Value.int IntKind.u8 0, Value.int IntKind.u8 0, Value.int IntKind.u8 0, Value.int IntKind.u8 0, Value.int IntKind.u8 0, Value.int IntKind.u8 0, Value.int IntKind.u8 0, Value.int IntKind.u8 0, Value.int IntKind.u8 0, Value.int IntKind.u8 0, Value.int IntKind.u8 0, Value.int IntKind.u8 0, Value.int IntKind.u8 0, Value.int IntKind.u8 0, Value.int IntKind.u8 0, Value.int IntKind.u8 0, Value.int IntKind.u8 0, Value.int IntKind.u8 0, Value.int IntKind.u8 0, Value.int IntKind.u8 0, Value.int IntKind.u8 0, Value.int IntKind.u8 0, Value.int IntKind.u8 0, Value.int IntKind.u8 0, Value.int IntKind.u8 0, Value.int IntKind.u8 0, Value.int IntKind.u8 0, Value.int IntKind.u8 0, Value.int IntKind.u8 0, Value.int IntKind.u8 0, Value.int IntKind.u8 0, Value.int IntKind.u8 0, Value.int IntKind.u8 0, Value.int IntKind.u8 0, Value.int IntKind.u8 0, Value.int IntKind.u8 0, Value.int IntKind.u8 0, Value.int IntKind.u8 0, Value.int IntKind.u8 0, Value.int IntKind.u8 0, Value.int IntKind.u8 0, Value.int IntKind.u8 0, Value.int IntKind.u8 0, Value.int IntKind.u8 0, Value.int IntKind.u8 0, Value.int IntKind.u8 0, Value.int IntKind.u8 0, Value.int IntKind.u8 0, Value.int IntKind.u8 0, Value.int IntKind.u8 0, Value.int IntKind.u8 0, Value.int IntKind.u8 0, Value.int IntKind.u8 0, Value.int IntKind.u8 0, Value.int IntKind.u8 0, Value.int IntKind.u8 0, Value.int IntKind.u8 0, Value.int IntKind.u8 0, Value.int IntKind.u8 0, Value.int IntKind.u8 0, Value.int IntKind.u8 0, Value.int IntKind.u8 0, Value.int IntKind.u8 0, Value.int IntKind.u8 0, Value.int IntKind.u8 0, Value.int IntKind.u8 0, Value.int IntKind.u8 0, Value.int IntKind.u8 0, Value.int IntKind.u8 0, Value.int IntKind.u8 0, Value.int IntKind.u8 0, Value.int IntKind.u8 0, Value.int IntKind.u8 0, Value.int IntKind.u8 0, Value.int IntKind.u8 0, Value.int IntKind.u8 0, Value.int IntKind.u8 0, Value.int IntKind.u8 0, Value.int IntKind.u8 0, Value.int IntKind.u8 0, Value.int IntKind.u8 0, Value.int IntKind.u8 0, Value.int IntKind.u8 0, Value.int IntKind.u8 0, Value.int IntKind.u8 0, Value.int IntKind.u8 0, Value.int IntKind.u8 0, Value.int IntKind.u8 0, Value.int IntKind.u8 0, Value.int IntKind.u8 0, Value.int IntKind.u8 0, Value.int IntKind.u8 0, Value.int IntKind.u8 0, Value.int IntKind.u8 0, Value.int IntKind.u8 0, Value.int IntKind.u8 0, Value.int IntKind.u8 0, Value.int IntKind.u8 0, Value.int IntKind.u8 0, Value.int IntKind.u8 0, Value.int IntKind.u8 0], fl := true }
theorem i_332 : TabE Tryz.prog (332, t_332, false) := ⟨by kernel_rfl, fun h => by simp at h⟩
def t_333 : TyD := { und := TypeDesc.struct #[{ name := "lo", type := 5, offset := 0, embedded := false, tag := "", pkgPath := "unicode/utf8", byteOffset := 0 }, { name := "hi", type := 5, offset := 1, embedded := false, tag := "", pkgPath := "unicode/utf8", byteOffset := 1 }], size := 2, bytes := 2, zero := [Value.int IntKind.u8 0, Value.int IntKind.u8 0], fl := true }
theorem i_333 : TabE Tryz.prog (333, t_333, true) := ⟨by kernel_rfl, fun _ => by kernel_rfl⟩
def t_334 : TyD := { und := TypeDesc.struct #[{ name := "lo", type := 5, offset := 0, embedded := false, tag := "", pkgPath := "unicode/utf8", byteOffset := 0 }, { name := "hi", type := 5, offset := 1, embedded := false, tag := "", pkgPath := "unicode/utf8", byteOffset := 1 }], size := 2, bytes := 2, zero := [Value.int IntKind.u8 0, Value.int IntKind.u8 0], fl := true }
theorem i_334 : TabE Tryz.prog (334, t_334, true) := ⟨by kernel_rfl, fun _ => by kernel_rfl⟩
def t_335 : TyD := { und := TypeDesc.array 16 334, size := 32, bytes := 32, zero := [Value.int IntKind.u8 0, Value.int IntKind.u8 0, Value.int IntKind.u8 0, Value.int IntKind.u8 0, Value.int IntKind.u8 0, Value.int IntKind.u8 0, Value.int IntKind.u8 0, Value.int IntKind.u8 0, Value.int IntKind.u8 0, Value.int IntKind.u8 0, Value.int IntKind.u8 0, Value.int IntKind.u8 0, Value.int IntKind.u8 0, Value.int IntKind.u8 0, Value.int IntKind.u8 0, Value.int IntKind.u8 0, Value.int IntKind.u8 0, Value.int IntKind.u8 0, Value.int IntKind.u8 0, Value.int IntKind.u8 0, Value.int IntKind.u8 0, Value.int IntKind.u8 0, Value.int IntKind.u8 0, Value.int IntKind.u8 0, Value.int IntKind.u8 0, Value.int IntKind.u8 0, Value.int IntKind.u8 0, Value.int IntKind.u8 0, Value.int IntKind.u8 0, Value.int IntKind.u8 0, Value.int IntKind.u8 0, Value.int IntKind.u8 0], fl := true }
theorem i_335 : TabE Tryz.prog (335, t_335, false) := ⟨by kernel_rfl, fun h => by simp at h⟩
def t_337 : TyD := { und := TypeDesc.func #[9] #[328, 328] false, size := 1, bytes := 8, zero := [Value.nilFunc], fl := false }
theorem i_337 : TabE Tryz.prog (337, t_337, false) := ⟨by kernel_rfl, fun h => by simp at h⟩
def t_338 : TyD := { und := TypeDesc.pointer 340, size := 1, bytes := 8, zero := [Value.pointer none], fl := false }
theorem i_338 : TabE Tryz.prog (338, t_338, false) := ⟨by kernel_rfl, fun h => by simp at h⟩
def t_339 : TyD := { und := TypeDesc.struct #[{ name := "s", type := 9, offset := 0, embedded := false, tag := "", pkgPath := "errors", byteOffset := 0 }], size := 1, bytes := 16, zero := [Value.string ⟨#[]⟩], fl := true }
theorem i_339 : TabE Tryz.prog (339, t_339, true) := ⟨by kernel_rfl, fun _ => by kernel_rfl⟩
def t_340 : TyD := { und := TypeDesc.struct #[{ name := "s", type := 9, offset := 0, embedded := false, tag := "", pkgPath := "errors", byteOffset := 0 }], size := 1, bytes := 16, zero := [Value.string ⟨#[]⟩], fl := true }
theorem i_340 : TabE Tryz.prog (340, t_340, true) := ⟨by kernel_rfl, fun _ => by kernel_rfl⟩
def t_341 : TyD := { und := TypeDesc.func #[328] #[3] false, size := 1, bytes := 8, zero := [Value.nilFunc], fl := false }
theorem i_341 : TabE Tryz.prog (341, t_341, false) := ⟨by kernel_rfl, fun h => by simp at h⟩
def t_343 : TyD := { und := TypeDesc.func #[268, 31] #[2, 31, 2] false, size := 1, bytes := 8, zero := [Value.nilFunc], fl := false }
theorem i_343 : TabE Tryz.prog (343, t_343, false) := ⟨by kernel_rfl, fun h => by simp at h⟩
def t_344 : TyD := { und := TypeDesc.array 32 5, size := 32, bytes := 32, zero := [Value.int IntKind.u8 0, Value.int IntKind.u8 0, Value.int IntKind.u8 0, Value.int IntKind.u8 0, Value.int IntKind.u8 0, Value.int IntKind.u8 0, Value.int IntKind.u8 0, Value.int IntKind.u8 0, Value.int IntKind.u8 0, Value.int IntKind.u8 0, Value.int IntKind.u8 0, Value.int IntKind.u8 0, Value.int IntKind.u8 0, Value.int IntKind.u8 0, Value.int IntKind.u8 0, Value.int IntKind.u8 0, Value.int IntKind.u8 0, Value.int IntKind.u8 0, Value.int IntKind.u8 0, Value.int IntKind.u8 0, Value.int IntKind.u8 0, Value.int IntKind.u8 0, Value.int IntKind.u8 0, Value.int IntKind.u8 0, Value.int IntKind.u8 0, Value.int IntKind.u8 0, Value.int IntKind.u8 0, Value.int IntKind.u8 0, Value.int IntKind.u8 0, Value.int IntKind.u8 0, Value.int IntKind.u8 0, Value.int IntKind.u8 0], fl := true }
theorem i_344 : TabE Tryz.prog (344, t_344, false) := ⟨by kernel_rfl, fun h => by simp at h⟩
def t_345 : TyD := { und := TypeDesc.array 64 5, size := 64, bytes := 64, zero := [Value.int IntKind.u8 0, Value.int IntKind.u8 0, Value.int IntKind.u8 0, Value.int IntKind.u8 0, Value.int IntKind.u8 0, Value.int IntKind.u8 0, Value.int IntKind.u8 0, Value.int IntKind.u8 0, Value.int IntKind.u8 0, Value.int IntKind.u8 0, Value.int IntKind.u8 0, Value.int IntKind.u8 0, Value.int IntKind.u8 0, Value.int IntKind.u8 0, Value.int IntKind.u8 0, Value.int IntKind.u8 0, Value.int IntKind.u8 0, Value.int IntKind.u8 0, Value.int IntKind.u8 0, Value.int IntKind.u8 0, Value.int IntKind.u8 0, Value.int IntKind.u8 0, Value.int IntKind.u8 0, Value.int IntKind.u8 0, Value.int IntKind.u8 0, Value.int IntKind.u8 0, Value.int IntKind.u8 0, Value.int IntKind.u8 0, Value.int IntKind.u8 0, Value.int IntKind.u8 0, Value.int IntKind.u8 0, Value.int IntKind.u8 0, Value.int IntKind.u8 0, Value.int IntKind.u8 0, Value.int IntKind.u8 0, Value.int IntKind.u8 0, Value.int IntKind.u8 0, Value.int IntKind.u8 0, Value.int IntKind.u8 0, Value.int IntKind.u8 0, Value.int IntKind.u8 0, Value.int IntKind.u8 0, Value.int IntKind.u8 0, Value.int IntKind.u8 0, Value.int IntKind.u8 0, Value.int IntKind.u8 0, Value.int IntKind.u8 0, Value.int IntKind.u8 0, Value.int IntKind.u8 0, Value.int IntKind.u8 0, Value.int IntKind.u8 0, Value.int IntKind.u8 0, Value.int IntKind.u8 0, Value.int IntKind.u8 0, Value.int IntKind.u8 0, Value.int IntKind.u8 0, Value.int IntKind.u8 0, Value.int IntKind.u8 0, Value.int IntKind.u8 0, Value.int IntKind.u8 0, Value.int IntKind.u8 0, Value.int IntKind.u8 0, Value.int IntKind.u8 0, Value.int IntKind.u8 0], fl := true }
theorem i_345 : TabE Tryz.prog (345, t_345, false) := ⟨by kernel_rfl, fun h => by simp at h⟩
def t_346 : TyD := { und := TypeDesc.struct #[{ name := "_interface", type := 17, offset := 0, embedded := false, tag := "", pkgPath := "runtime", byteOffset := 0 }, { name := "concrete", type := 17, offset := 1, embedded := false, tag := "", pkgPath := "runtime", byteOffset := 8 }, { name := "asserted", type := 17, offset := 2, embedded := false, tag := "", pkgPath := "runtime", byteOffset := 16 }, { name := "missingMethod", type := 9, offset := 3, embedded := false, tag := "", pkgPath := "runtime", byteOffset := 24 }], size := 4, bytes := 40, zero := [Value.pointer none, Value.pointer none, Value.pointer none, Value.string ⟨#[]⟩], fl := false }
theorem i_346 : TabE Tryz.prog (346, t_346, false) := ⟨by kernel_rfl, fun h => by simp at h⟩
def t_347 : TyD := { und := TypeDesc.struct #[{ name := "_interface", type := 17, offset := 0, embedded := false, tag := "", pkgPath := "runtime", byteOffset := 0 }, { name := "concrete", type := 17, offset := 1, embedded := false, tag := "", pkgPath := "runtime", byteOffset := 8 }, { name := "asserted", type := 17, offset := 2, embedded := false, tag := "", pkgPath := "runtime", byteOffset := 16 }, { name := "missingMethod", type := 9, offset := 3, embedded := false, tag := "", pkgPath := "runtime", byteOffset := 24 }], size := 4, bytes := 40, zero := [Value.pointer none, Value.pointer none, Value.pointer none, Value.string ⟨#[]⟩], fl := false }
theorem i_347 : TabE Tryz.prog (347, t_347, false) := ⟨by kernel_rfl, fun h => by simp at h⟩
def t_348 : TyD := { und := TypeDesc.array 0 16, size := 0, bytes := 0, zero := [], fl := false }
theorem i_348 : TabE Tryz.prog (348, t_348, false) := ⟨by kernel_rfl, fun h => by simp at h⟩
def t_349 : TyD := { und := TypeDesc.struct #[{ name := "_", type := 348, offset := 0, embedded := false, tag := "", pkgPath := "runtime", byteOffset := 0 }], size := 0, bytes := 0, zero := [], fl := false }
theorem i_349 : TabE Tryz.prog (349, t_349, false) := ⟨by kernel_rfl, fun h => by simp at h⟩
def t_350 : TyD := { und := TypeDesc.struct #[{ name := "_", type := 348, offset := 0, embedded := false, tag := "", pkgPath := "runtime", byteOffset := 0 }], size := 0, bytes := 0, zero := [], fl := false }
theorem i_350 : TabE Tryz.prog (350, t_350, false) := ⟨by kernel_rfl, fun h => by simp at h⟩
def t_351 : TyD := { und := TypeDesc.func #[] #[3] false, size := 1, bytes := 8, zero := [Value.nilFunc], fl := false }
theorem i_351 : TabE Tryz.prog (351, t_351, false) := ⟨by kernel_rfl, fun h => by simp at h⟩
def t_352 : TyD := { und := TypeDesc.int IntKind.u8, size := 1, bytes := 1, zero := [Value.int IntKind.u8 0], fl := true }
theorem i_352 : TabE Tryz.prog (352, t_352, false) := ⟨by kernel_rfl, fun h => by simp at h⟩
def t_353 : TyD := { und := TypeDesc.int IntKind.u8, size := 1, bytes := 1, zero := [Value.int IntKind.u8 0], fl := true }
theorem i_353 : TabE Tryz.prog (353, t_353, false) := ⟨by kernel_rfl, fun h => by simp at h⟩
def t_354 : TyD := { und := TypeDesc.func #[309, 309] #[4] false, size := 1, bytes := 8, zero := [Value.nilFunc], fl := false }
theorem i_354 : TabE Tryz.prog (354, t_354, false) := ⟨by kernel_rfl, fun h => by simp at h⟩
def t_355 : TyD := { und := TypeDesc.int IntKind.i32, size := 1, bytes := 4, zero := [Value.int IntKind.i32 0], fl := true }
theorem i_355 : TabE Tryz.prog (355, t_355, false) := ⟨by kernel_rfl, fun h => by simp at h⟩
def t_356 : TyD := { und := TypeDesc.int IntKind.i32, size := 1, bytes := 4, zero := [Value.int IntKind.i32 0], fl := true }
theorem i_356 : TabE Tryz.prog (356, t_356, false) := ⟨by kernel_rfl, fun h => by simp at h⟩
def t_357 : TyD := { und := TypeDesc.struct #[{ name := "Size_", type := 12, offset := 0, embedded := false, tag := "", pkgPath := "", byteOffset := 0 }, { name := "PtrBytes", type := 12, offset := 1, embedded := false, tag := "", pkgPath := "", byteOffset := 8 }, { name := "Hash", type := 328, offset := 2, embedded := false, tag := "", pkgPath := "", byteOffset := 16 }, { name := "TFlag", type := 352, offset := 3, embedded := false, tag := "", pkgPath := "", byteOffset := 20 }, { name := "Align_", type := 5, offset := 4, embedded := false, tag := "", pkgPath := "", byteOffset := 21 }, { name := "FieldAlign_", type := 5, offset := 5, embedded := false, tag := "", pkgPath := "", byteOffset := 22 }, { name := "Kind_", type := 353, offset := 6, embedded := false, tag := "", pkgPath := "", byteOffset := 23 }, { name := "Equal", type := 354, offset := 7, embedded := false, tag := "", pkgPath := "", byteOffset := 24 }, { name := "GCData", type := 282, offset := 8, embedded := false, tag := "", pkgPath := "", byteOffset := 32 }, { name := "Str", type := 355, offset := 9, embedded := false, tag := "", pkgPath := "", byteOffset := 40 }, { name := "PtrToThis", type := 356, offset := 10, embedded := false, tag := "", pkgPath := "", byteOffset := 44 }], size := 11, bytes := 48, zero := [Value.int IntKind.u64 0, Value.int IntKind.u64 0, Value.int IntKind.u32 0, Value.int IntKind.u8 0, Value.int IntKind.u8 0, Value.int IntKind.u8 0, Value.int IntKind.u8 0, Value.nilFunc, Value.pointer none, Value.int IntKind.i32 0, Value.int IntKind.i32 0], fl := false }
theorem i_357 : TabE Tryz.prog (357, t_357, false) := ⟨by kernel_rfl, fun h => by simp at h⟩
def t_358 : TyD := { und := TypeDesc.struct #[{ name := "Size_", type := 12, offset := 0, embedded := false, tag := "", pkgPath := "", byteOffset := 0 }, { name := "PtrBytes", type := 12, offset := 1, embedded := false, tag := "", pkgPath := "", byteOffset := 8 }, { name := "Hash", type := 328, offset := 2, embedded := false, tag := "", pkgPath := "", byteOffset := 16 }, { name := "TFlag", type := 352, offset := 3, embedded := false, tag := "", pkgPath := "", byteOffset := 20 }, { name := "Align_", type := 5, offset := 4, embedded := false, tag := "", pkgPath := "", byteOffset := 21 }, { name := "FieldAlign_", type := 5, offset := 5, embedded := false, tag := "", pkgPath := "", byteOffset := 22 }, { name := "Kind_", type := 353, offset := 6, embedded := false, tag := "", pkgPath := "", byteOffset := 23 }, { name := "Equal", type := 354, offset := 7, embedded := false, tag := "", pkgPath := "", byteOffset := 24 }, { name := "GCData", type := 282, offset := 8, embedded := false, tag := "", pkgPath := "", byteOffset := 32 }, { name := "Str", type := 355, offset := 9, embedded := false, tag := "", pkgPath := "", byteOffset := 40 }, { name := "PtrToThis", type := 356, offset := 10, embedded := false, tag := "", pkgPath := "", byteOffset := 44 }], size := 11, bytes := 48, zero := [Value.int IntKind.u64 0, Value.int IntKind.u64 0, Value.int IntKind.u32 0, Value.int IntKind.u8 0, Value.int IntKind.u8 0, Value.int IntKind.u8 0, Value.int IntKind.u8 0, Value.nilFunc, Value.pointer none, Value.int IntKind.i32 0, Value.int IntKind.i32 0], fl := false }
theorem i_358 : TabE Tryz.prog (358, t_358, false) := ⟨by kernel_rfl, fun h => by simp at h⟩
def tyTab : List (Nat × TyD × Bool) := [(1, t_1, false), (2, t_2, false), (3, t_3, false), (4, t_4, false), (5, t_5, false), (6, t_6, false), (7, t_7, true), (8, t_8, true), (9, t_9, false), (10, t_10, false), (11, t_11, false), (12, t_12, false), (13, t_13, false), (14, t_14, false), (15, t_15, false), (16, t_16, false), (17, t_17, false), (18, t_18, false), (19, t_19, false), (21, t_21, false), (22, t_22, false), (23, t_23, false), (24, t_24, false), (25, t_25, true), (26, t_26, true), (27, t_27, false), (28, t_28, false), (29, t_29, false), (30, t_30, true), (31, t_31, true), (32, t_32, false), (33, t_33, false), (35, t_35, false), (36, t_36, false), (37, t_37, false), (38, t_38, false), (40, t_40, false), (42, t_42, false), (44, t_44, false), (45, t_45, true), (46, t_46, true), (47, t_47, false), (48, t_48, true), (49, t_49, true), (51, t_51, false), (52, t_52, false), (53, t_53, false), (55, t_55, false), (56, t_56, false), (57, t_57, false), (59, t_59, false), (60, t_60, false), (61, t_61, false), (62, t_62, true), (63, t_63, true), (64, t_64, true), (65, t_65, true), (66, t_66, false), (67, t_67, true), (68, t_68, true), (69, t_69, false), (70, t_70, true), (71, t_71, true), (72, t_72, false), (74, t_74, false), (75, t_75, false), (77, t_77, false), (78, t_78, true), (79, t_79, true), (81, t_81, false), (82, t_82, false), (83, t_83, true), (84, t_84, true), (85, t_85, false), (86, t_86, false), (87, t_87, false), (88, t_88, false), (89, t_89, false), (90, t_90, false), (92, t_92, false), (94, t_94, false), (95, t_95, false), (96, t_96, false), (97, t_97, false), (98, t_98, false), (100, t_100, false), (101, t_101, false), (102, t_102, false), (103, t_103, false), (104, t_104, true), (105, t_105, true), (106, t_106, false), (107, t_107, false), (108, t_108, false), (109, t_109, false), (110, t_110, false), (111, t_111, false), (112, t_112, false), (113, t_113, false), (114, t_114, false), (115, t_115, false), (116, t_116, false), (117, t_117, false), (118, t_118, false), (119, t_119, false), (120, t_120, false), (121, t_121, false), (122, t_122, false), (123, t_123, false), (124, t_124, false), (126, t_126, false), (127, t_127, false), (128, t_128, false), (129, t_129, false), (130, t_130, false), (131, t_131, false), (132, t_132, false), (133, t_133, false), (134, t_134, false), (135, t_135, false), (136, t_136, false), (137, t_137, true), (138, t_138, true), (140, t_140, false), (141, t_141, false), (142, t_142, false), (143, t_143, false), (144, t_144, false), (145, t_145, false), (146, t_146, false), (147, t_147, false), (148, t_148, false), (149, t_149, false), (150, t_150, false), (152, t_152, false), (153, t_153, false), (154, t_154, false), (155, t_155, false), (156, t_156, false), (157, t_157, false), (158, t_158, false), (159, t_159, false), (160, t_160, false), (161, t_161, false), (163, t_163, false), (164, t_164, false), (165, t_165, false), (166, t_166, false), (167, t_167, false), (168, t_168, false), (169, t_169, false), (170, t_170, false), (171, t_171, false), (172, t_172, false), (173, t_173, false), (174, t_174, false), (175, t_175, false), (176, t_176, false), (177, t_177, false), (178, t_178, false), (179, t_179, false), (180, t_180, false), (181, t_181, false), (182, t_182, false), (183, t_183, false), (184, t_184, false), (185, t_185, false), (186, t_186, false), (187, t_187, false), (188, t_188, false), (189, t_189, false), (190, t_190, false), (191, t_191, false), (192, t_192, false), (193, t_193, false), (194, t_194, false), (195, t_195, false), (196, t_196, false), (197, t_197, false), (198, t_198, false), (199, t_199, false), (200, t_200, false), (201, t_201, false), (203, t_203, false), (204, t_204, false), (205, t_205, false), (206, t_206, false), (208, t_208, false), (209, t_209, false), (210, t_210, false), (211, t_211, false), (212, t_212, false), (213, t_213, false), (214, t_214, false), (215, t_215, true), (216, t_216, true), (217, t_217, false), (218, t_218, false), (219, t_219, false), (220, t_220, false), (221, t_221, false), (222, t_222, false), (223, t_223, false), (224, t_224, false), (225, t_225, false), (229, t_229, false), (230, t_230, false), (231, t_231, false), (232, t_232, true), (233, t_233, true), (234, t_234, false), (236, t_236, false), (237, t_237, false), (238, t_238, false), (239, t_239, false), (240, t_240, false), (242, t_242, false), (243, t_243, false), (244, t_244, false), (245, t_245, false), (246, t_246, false), (247, t_247, false), (248, t_248, false), (249, t_249, false), (250, t_250, false), (251, t_251, false), (252, t_252, false), (253, t_253, false), (254, t_254, false), (255, t_255, false), (256, t_256, false), (257, t_257, false), (258, t_258, false), (259, t_259, false), (260, t_260, false), (261, t_261, false), (262, t_262, false), (263, t_263, false), (264, t_264, false), (265, t_265, false), (266, t_266, false), (267, t_267, false), (268, t_268, false), (269, t_269, false), (270, t_270, false), (271, t_271, false), (272, t_272, false), (273, t_273, false), (274, t_274, false), (275, t_275, false), (276, t_276, false), (277, t_277, false), (278, t_278, false), (279, t_279, false), (280, t_280, false), (281, t_281, false), (282, t_282, false), (283, t_283, false), (284, t_284, false), (285, t_285, false), (286, t_286, false), (287, t_287, false), (288, t_288, false), (289, t_289, false), (290, t_290, false), (291, t_291, false), (292, t_292, false), (294, t_294, false), (295, t_295, false), (296, t_296, false), (297, t_297, false), (298, t_298, false), (299, t_299, false), (301, t_301, false), (302, t_302, false), (303, t_303, false), (305, t_305, false), (306, t_306, false), (307, t_307, false), (308, t_308, false), (309, t_309, false), (310, t_310, false), (311, t_311, false), (312, t_312, false), (313, t_313, false), (314, t_314, false), (316, t_316, false), (317, t_317, false), (318, t_318, false), (319, t_319, false), (320, t_320, false), (321, t_321, false), (322, t_322, false), (323, t_323, false), (324, t_324, false), (325, t_325, false), (326, t_326, false), (327, t_327, false), (328, t_328, false), (329, t_329, false), (330, t_330, false), (331, t_331, false), (332, t_332, false), (333, t_333, true), (334, t_334, true), (335, t_335, false), (337, t_337, false), (338, t_338, false), (339, t_339, true), (340, t_340, true), (341, t_341, false), (343, t_343, false), (344, t_344, false), (345, t_345, false), (346, t_346, false), (347, t_347, false), (348, t_348, false), (349, t_349, false), (350, t_350, false), (351, t_351, false), (352, t_352, false), (353, t_353, false), (354, t_354, false), (355, t_355, false), (356, t_356, false), (357, t_357, false), (358, t_358, false)]
@[reducible] def T0 : Ty := lookT tyTab
@[reducible] def Q0 : Nat → Bool := lookQ tyTab
theorem tabOk : TabOk Tryz.prog T0 Q0 := tab_ok (l := tyTab) (⟨i_1, i_2, i_3, i_4, i_5, i_6, i_7, i_8, i_9, i_10, i_11, i_12, i_13, i_14, i_15, i_16, i_17, i_18, i_19, i_21, i_22, i_23, i_24, i_25, i_26, i_27, i_28, i_29, i_30, i_31, i_32, i_33, i_35, i_36, i_37, i_38, i_40, i_42, i_44, i_45, i_46, i_47, i_48, i_49, i_51, i_52, i_53, i_55, i_56, i_57, i_59, i_60, i_61, i_62, i_63, i_64, i_65, i_66, i_67, i_68, i_69, i_70, i_71, i_72, i_74, i_75, i_77, i_78, i_79, i_81, i_82, i_83, i_84, i_85, i_86, i_87, i_88, i_89, i_90, i_92, i_94, i_95, i_96, i_97, i_98, i_100, i_101, i_102, i_103, i_104, i_105, i_106, i_107, i_108, i_109, i_110, i_111, i_112, i_113, i_114, i_115, i_116, i_117, i_118, i_119, i_120, i_121, i_122, i_123, i_124, i_126, i_127, i_128, i_129, i_130, i_131, i_132, i_133, i_134, i_135, i_136, i_137, i_138, i_140, i_141, i_142, i_143, i_144, i_145, i_146, i_147, i_148, i_149, i_150, i_152, i_153, i_154, i_155, i_156, i_157, i_158, i_159, i_160, i_161, i_163, i_164, i_165, i_166, i_167, i_168, i_169, i_170, i_171, i_172, i_173, i_174, i_175, i_176, i_177, i_178, i_179, i_180, i_181, i_182, i_183, i_184, i_185, i_186, i_187, i_188, i_189, i_190, i_191, i_192, i_193, i_194, i_195, i_196, i_197, i_198, i_199, i_200, i_201, i_203, i_204, i_205, i_206, i_208, i_209, i_210, i_211, i_212, i_213, i_214, i_215, i_216, i_217, i_218, i_219, i_220, i_221, i_222, i_223, i_224, i_225, i_229, i_230, i_231, i_232, i_233, i_234, i_236, i_237, i_238, i_239, i_240, i_242, i_243, i_244, i_245, i_246, i_247, i_248, i_249, i_250, i_251, i_252, i_253, i_254, i_255, i_256, i_257, i_258, i_259, i_260, i_261, i_262, i_263, i_264, i_265, i_266, i_267, i_268, i_269, i_270, i_271, i_272, i_273, i_274, i_275, i_276, i_277, i_278, i_279, i_280, i_281, i_282, i_283, i_284, i_285, i_286, i_287, i_288, i_289, i_290, i_291, i_292, i_294, i_295, i_296, i_297, i_298, i_299, i_301, i_302, i_303, i_305, i_306, i_307, i_308, i_309, i_310, i_311, i_312, i_313, i_314, i_316, i_317, i_318, i_319, i_320, i_321, i_322, i_323, i_324, i_325, i_326, i_327, i_328, i_329, i_330, i_331, i_332, i_333, i_334, i_335, i_337, i_338, i_339, i_340, i_341, i_343, i_344, i_345, i_346, i_347, i_348, i_349, i_350, i_351, i_352, i_353, i_354, i_355, i_356, i_357, i_358, trivial⟩)
end Go.Proofs.YtamachahlhlhlaaGreatDoor.Eng
set_option linter.unusedVariables false
set_option linter.unusedSimpArgs false
namespace Go.Proofs.YtamachahlhlhlaaGreatDoor.Eng
open Go Go.RowKit
set_option maxRecDepth 100000
theorem tmod_lt {a b : Int} (h : b ≠ 0) : (a.tmod b).natAbs < b.natAbs := by
  rw [Int.natAbs_tmod]; exact Nat.mod_lt _ (by omega)
theorem gcd_tmod {a b : Int} : Int.gcd b (a.tmod b) = Int.gcd a b := by
  simp only [Int.gcd, Int.natAbs_tmod]
  rw [Nat.gcd_comm, ← Nat.gcd_rec, Nat.gcd_comm]
theorem seg_get {α : Type} {l : List α} {s n i : Nat} {a : α} (h : (seg l s n)[i]? = some a) : l[s + i]? = some a ∧ i < n := by
  unfold seg at h
  rw [List.getElem?_take] at h
  split at h
  · rw [List.getElem?_drop] at h; exact ⟨h, by assumption⟩
  · simp at h
theorem seg_len {α : Type} {l : List α} {s n : Nat} (h : s + n ≤ l.length) : (seg l s n).length = n := by
  simp [seg]; omega
theorem atL_i {α : Type} {l : List α} {s n i : Nat} {a : α} {K : α → Prop} (ha : (seg l s n)[i]? = some a) (h : K a) : atL l (s + ((i : Nat) : Int).toNat) K :=
  atL_iff.2 ⟨a, by simpa using (seg_get ha).1, h⟩
theorem atL_0 {α : Type} {l : List α} {i : Nat} {a : α} {K : α → Prop} (ha : l[i]? = some a) (h : K a) : atL l (0 + ((i : Nat) : Int).toNat) K :=
  atL_iff.2 ⟨a, by simpa using ha, h⟩
theorem atL_n {α : Type} {l : List α} {i : Nat} {a : α} {K : α → Prop} (ha : l[i]? = some a) (h : K a) : atL l ((i : Nat) : Int).toNat K :=
  atL_iff.2 ⟨a, by simpa using ha, h⟩
theorem atL_p {α : Type} {l : List α} {i : Nat} {a : α} {K : α → Prop} (ha : l[i]? = some a) (h : K a) : atL l i K := atL_iff.2 ⟨a, ha, h⟩
theorem atL_e {α : Type} {l : List α} {i j : Nat} {a : α} {K : α → Prop} (e : i = j) (ha : l[j]? = some a) (h : K a) : atL l i K := by subst e; exact atL_iff.2 ⟨a, ha, h⟩
theorem seg_all {α : Type} (l : List α) : seg l 0 l.length = l := by simp [seg]
theorem seg_full {α : Type} {l : List α} {n : Nat} (h : l.length = n) : seg l 0 n = l := by simp [seg, ← h]
theorem get_some {α : Type} {l : List α} {i : Nat} (h : i < l.length) : ∃ a, l[i]? = some a := ⟨l[i], by simp [h]⟩
/-- The first place where p holds, or -1. -/
def findI {α : Type} (p : α → Bool) (l : List α) : Int := if l.any p = true then (l.findIdx p : Int) else -1
theorem findI_none {α : Type} {p : α → Bool} {l : List α} (h : ∀ (j : Nat) a, l[j]? = some a → p a = false) : findI p l = -1 := by
  unfold findI
  rw [if_neg]
  rw [List.any_eq_true]
  rintro ⟨a, ha, hp⟩
  obtain ⟨j, hj⟩ := List.getElem?_of_mem ha
  rw [h j a hj] at hp; simp at hp
theorem findI_some {α : Type} {p : α → Bool} {l : List α} {i : Nat} {a : α} (ha : l[i]? = some a) (hp : p a = true) (h : ∀ (j : Nat) a, j < i → l[j]? = some a → p a = false) : findI p l = i := by
  unfold findI
  rw [if_pos (List.any_eq_true.2 ⟨a, List.mem_of_getElem? ha, hp⟩)]
  obtain ⟨hi, e⟩ := List.getElem?_eq_some_iff.1 ha
  have : l.findIdx p = i := by
    rw [List.findIdx_eq hi]
    exact ⟨by rw [e]; exact hp, fun j hj => h j _ hj (by simp)⟩
  rw [this]
theorem findI_any {α : Type} (p : α → Bool) (l : List α) : decide (0 ≤ findI p l) = l.any p := by
  unfold findI
  split
  · rename_i h; rw [h]; simp
  · rename_i h
    have : l.any p = false := by simpa using h
    rw [this]; rfl
theorem app_take {α : Type} {D : List α} {i : Nat} {w : α} (h : D[i]? = some w) : seg (D.take i) 0 i ++ seg [w] 0 1 = D.take (i + 1) := by
  have hl := (List.getElem?_eq_some_iff.1 h).1
  rw [seg_full (by rw [List.length_take]; omega), List.take_add_one, h]; rfl
/-- Two rows alike so far. -/
theorem same_end {α : Type} {L M : List α} {n : Nat} (h1 : L.length = n) (h2 : M.length = n) (h : L.take n = M.take n) : L = M := by
  rwa [List.take_of_length_le (by omega), List.take_of_length_le (by omega)] at h
theorem same_step {α : Type} {L M : List α} {i : Nat} {a b : α} (ha : L[i]? = some a) (hb : M[i]? = some b) (h : L.take i = M.take i) (hab : a = b) : L.take (i + 1) = M.take (i + 1) := by
  rw [List.take_add_one, List.take_add_one, h, ha, hb, hab]
theorem same_not {α : Type} {L M : List α} {i : Nat} {a b : α} (ha : L[i]? = some a) (hb : M[i]? = some b) (hab : a ≠ b) : L ≠ M := by
  rintro rfl
  rw [ha] at hb; exact hab (Option.some.inj hb)
/-- One more place where something holds. -/
theorem upto_step {α : Type} {p : α → Prop} {L : List α} {i : Nat} {a : α} (ha : L[i]? = some a) (hp : p a) (h : ∀ (j : Nat) b, j < i → L[j]? = some b → p b) : ∀ (j : Nat) b, j < i + 1 → L[j]? = some b → p b := fun j b hj hb => by
  by_cases e : j < i
  · exact h j b e hb
  · obtain rfl : j = i := by omega
    rw [ha] at hb; obtain rfl := Option.some.inj hb; exact hp
/-- Tests whose outcome is known. -/
theorem splitT_of {b : Bool} {A B : Prop} (h : b = true) (k : A) : splitB b A B := by subst h; exact splitT k
theorem splitF_of {b : Bool} {A B : Prop} (h : b = false) (k : B) : splitB b A B := by subst h; exact splitF k
theorem seg_take {α : Type} {l : List α} {s m i : Nat} (hi : i ≤ m) : seg l s i = (seg l s m).take i := by
  unfold seg; rw [List.take_take]; congr 1; omega
theorem any_take {α : Type} {p : α → Bool} {L : List α} {i j : Nat} {b : α} (hb : L[j]? = some b) (hj : j < i) (h : p b = true) : (L.take i).any p = true := by
  rw [List.any_eq_true]
  exact ⟨b, List.mem_of_getElem? (i := j) (by rw [List.getElem?_take, if_pos hj]; exact hb), h⟩
theorem any_no {α : Type} {p : α → Bool} {L : List α} (h : ∀ (k : Nat) a, L[k]? = some a → p a = false) : L.any p = false := by
  rw [List.any_eq_false]
  intro a ha
  obtain ⟨j, hj⟩ := List.getElem?_of_mem ha
  rw [h j a hj]; simp
/-- All elements with their places. -/
def allI {α : Type} (d : α) (f : Nat → α → Bool) (E : List α) : Bool := (List.range E.length).all fun k : Nat => f k ((E[k]?).getD d)
theorem allI_yes {α : Type} {d : α} {f : Nat → α → Bool} {E : List α} {n : Nat} (hn : E.length = n) (h : ∀ (k : Nat) a, k < n → E[k]? = some a → f k a = true) : allI d f E = true := by
  unfold allI
  rw [List.all_eq_true]
  intro k hk
  rw [List.mem_range] at hk
  obtain ⟨a, ha⟩ : ∃ a, E[k]? = some a := ⟨E[k], by simp [hk]⟩
  rw [ha]; exact h k a (by omega) ha
theorem allI_no {α : Type} {d : α} {f : Nat → α → Bool} {E : List α} {k : Nat} {a : α} (ha : E[k]? = some a) (h : f k a = false) : allI d f E = false := by
  unfold allI
  rw [List.all_eq_false]
  have := (List.getElem?_eq_some_iff.1 ha).1
  exact ⟨k, List.mem_range.2 this, by rw [ha]; simp [h]⟩
theorem allI_at {α : Type} {d : α} {f : Nat → α → Bool} {E : List α} (h : allI d f E = true) {k : Nat} {a : α} (ha : E[k]? = some a) : f k a = true := by
  unfold allI at h
  rw [List.all_eq_true] at h
  have := h k (List.mem_range.2 (List.getElem?_eq_some_iff.1 ha).1)
  rwa [ha] at this
theorem allI_iff {α : Type} {d : α} {f : Nat → α → Bool} {E : List α} : allI d f E = true ↔ ∀ (k : Nat) a, E[k]? = some a → f k a = true :=
  ⟨fun h k a ha => allI_at h ha, fun h => allI_yes rfl fun k a _ ha => h k a ha⟩
theorem upto_step2 {α : Type} {p : Nat → α → Prop} {L : List α} {i : Nat} {a : α} (ha : L[i]? = some a) (hp : p i a) (h : ∀ (j : Nat) b, j < i → L[j]? = some b → p j b) : ∀ (j : Nat) b, j < i + 1 → L[j]? = some b → p j b := fun j b hj hb => by
  by_cases e : j < i
  · exact h j b e hb
  · obtain rfl : j = i := by omega
    rw [ha] at hb; obtain rfl := Option.some.inj hb; exact hp
def s_within : Spec := fun args S => match args, S with
  | [.int .i64 n, .int .i64 a, .int .i64 b], [] => ⟨True, .bool (decide (a ≤ n ∧ n ≤ b)), []⟩
  | _, _ => noSpec
theorem ok_within : SpecOk Tryz.prog 106 s_within := by
  intro args S h; unfold s_within at h ⊢; (split at h <;> first | exact False.elim h | skip)
  dsimp only at h ⊢
  refine funW tabOk (E := []) trivial [] (k := 0) (fn := Tryz.f106) rfl rfl rfl rfl rfl rfl ?_
  (repeat' ((try (conv => whnf)); first | (with_reducible first | refine And.intro ?_ ?_ | refine WX.of ?_) | exact zc | ((with_reducible refine VC.mk ?_); exact zw) | (with_reducible first | refine splitT ?_ | refine splitF ?_) | ((with_reducible refine splitM.mk (fun hsm => ?_) (fun hsm => ?_)) <;> (try exact zx)) | ((with_reducible refine splitB.mk (fun h => ?_) (fun h => ?_)) <;> (try simp only [zs, ne_eq] at h) <;> (try simp (disch := omega) only [w64] at h) <;> (try exact zx)) | (with_reducible intro hz; (try exact absurd hz (Nat.succ_ne_zero _)))))
  all_goals (first | exact ⟨rfl⟩ | (refine ⟨?_⟩; simp_all; done) | (refine ⟨?_⟩; simp_all; omega))
theorem ok_l00In : SpecOk Tryz.prog 198 s_within := by
  intro args S h; unfold s_within at h ⊢; (split at h <;> first | exact False.elim h | skip)
  dsimp only at h ⊢
  refine funW tabOk (E := []) trivial [] (k := 0) (fn := Tryz.f198) rfl rfl rfl rfl rfl rfl ?_
  (repeat' ((try (conv => whnf)); first | (with_reducible first | refine And.intro ?_ ?_ | refine WX.of ?_) | exact zc | ((with_reducible refine VC.mk ?_); exact zw) | (with_reducible first | refine splitT ?_ | refine splitF ?_) | ((with_reducible refine splitM.mk (fun hsm => ?_) (fun hsm => ?_)) <;> (try exact zx)) | ((with_reducible refine splitB.mk (fun h => ?_) (fun h => ?_)) <;> (try simp only [zs, ne_eq] at h) <;> (try simp (disch := omega) only [w64] at h) <;> (try exact zx)) | (with_reducible intro hz; (try exact absurd hz (Nat.succ_ne_zero _)))))
  all_goals (first | exact ⟨rfl⟩ | (refine ⟨?_⟩; simp_all; done) | (refine ⟨?_⟩; simp_all; omega))
/-- The sizes of all elements. -/
def tot {α : Type} (f : α → Nat) (l : List α) : Nat := (l.map f).sum
def s_gcd : Spec := fun args S => match args, S with
  | [.int .i64 a, .int .i64 b], [] => ⟨-9223372036854775808 < a ∧ a < 9223372036854775808 ∧ -9223372036854775808 < b ∧ b < 9223372036854775808, .int .i64 (Int.gcd a b), []⟩
  | _, _ => noSpec
theorem ok_gcd : SpecOk Tryz.prog 203 s_gcd := by
  intro args S h; unfold s_gcd at h ⊢; (split at h <;> first | exact False.elim h | skip)
  dsimp only at h ⊢
  rename_i a b
  refine funW tabOk (E := []) trivial [] (k := 0) (fn := Tryz.f203) rfl rfl rfl rfl rfl rfl ?_
  (repeat' ((try (conv => whnf)); first | (with_reducible first | refine And.intro ?_ ?_ | refine WX.of ?_) | exact zc | ((with_reducible refine VC.mk ?_); exact zw) | (with_reducible first | refine splitT ?_ | refine splitF ?_) | ((with_reducible refine splitM.mk (fun hsm => ?_) (fun hsm => ?_)) <;> (try exact zx)) | ((with_reducible refine splitB.mk (fun h => ?_) (fun h => ?_)) <;> (try simp only [zs, ne_eq] at h) <;> (try simp (disch := omega) only [w64] at h) <;> (try exact zx)) | (with_reducible intro hz; (try exact absurd hz (Nat.succ_ne_zero _)))))
  refine loopW tabOk (E := []) trivial [] (σ := Int × Int) (fun s => [(0, .int .i64 s.1), (1, .int .i64 s.2)]) (fun _ => []) (fun s => s.2.natAbs) (fun s => Int.gcd s.1 s.2 = Int.gcd a b ∧ -9223372036854775808 < s.1 ∧ s.1 < 9223372036854775808 ∧ -9223372036854775808 < s.2 ∧ s.2 < 9223372036854775808) (a, b) ⟨rfl, h⟩ ?_ ?_
  · (repeat' ((try (conv => whnf)); first | (with_reducible first | refine And.intro ?_ ?_ | refine WX.of ?_) | exact zc | ((with_reducible refine VC.mk ?_); exact zw) | (with_reducible first | refine splitT ?_ | refine splitF ?_) | ((with_reducible refine splitM.mk (fun hsm => ?_) (fun hsm => ?_)) <;> (try exact zx)) | ((with_reducible refine splitB.mk (fun h => ?_) (fun h => ?_)) <;> (try simp only [zs, ne_eq] at h) <;> (try simp (disch := omega) only [w64] at h) <;> (try exact zx)) | (with_reducible intro hz; (try exact absurd hz (Nat.succ_ne_zero _)))))
  · rintro ⟨x, y⟩ ⟨hg, hr⟩
    dsimp only at hg hr
    (repeat' ((try (conv => whnf)); first | (with_reducible first | refine And.intro ?_ ?_ | refine WX.of ?_) | exact zc | ((with_reducible refine VC.mk ?_); exact zw) | (with_reducible first | refine splitT ?_ | refine splitF ?_) | ((with_reducible refine splitM.mk (fun hsm => ?_) (fun hsm => ?_)) <;> (try exact zx)) | ((with_reducible refine splitB.mk (fun h => ?_) (fun h => ?_)) <;> (try simp only [zs, ne_eq] at h) <;> (try simp (disch := omega) only [w64] at h) <;> (try exact zx)) | (with_reducible intro hz; (try exact absurd hz (Nat.succ_ne_zero _)))))
    · have := tmod_lt (a := x) h
      refine ⟨(y, x.tmod y), this, ⟨by rw [← hg]; exact gcd_tmod, ?_⟩, ?_⟩
      · dsimp only; omega
      · (repeat' ((try (conv => whnf)); first | (with_reducible first | refine And.intro ?_ ?_ | refine WX.of ?_) | exact zc | ((with_reducible refine VC.mk ?_); exact zw) | (with_reducible first | refine splitT ?_ | refine splitF ?_) | ((with_reducible refine splitM.mk (fun hsm => ?_) (fun hsm => ?_)) <;> (try exact zx)) | ((with_reducible refine splitB.mk (fun h => ?_) (fun h => ?_)) <;> (try simp only [zs, ne_eq] at h) <;> (try simp (disch := omega) only [w64] at h) <;> (try exact zx)) | (with_reducible intro hz; (try exact absurd hz (Nat.succ_ne_zero _)))))
    · subst h
      simp at hg
      dsimp only
      rw [w64 (by omega)]
      refine ⟨?_⟩
      rw [← hg]
      congr 1
      split <;> omega
def s_abs : Spec := fun args S => match args, S with
  | [.int .i64 n], [] => ⟨-9223372036854775808 < n ∧ n < 9223372036854775808, .int .i64 (n.natAbs : Int), []⟩
  | _, _ => noSpec
theorem ok_l01Abs : SpecOk Tryz.prog 191 s_abs := by
  intro args S h; unfold s_abs at h ⊢; (split at h <;> first | exact False.elim h | skip)
  dsimp only at h ⊢
  refine funW tabOk (E := []) trivial [] (k := 0) (fn := Tryz.f191) rfl rfl rfl rfl rfl rfl ?_
  (repeat' ((try (conv => whnf)); first | (with_reducible first | refine And.intro ?_ ?_ | refine WX.of ?_) | exact zc | ((with_reducible refine VC.mk ?_); exact zw) | (with_reducible first | refine splitT ?_ | refine splitF ?_) | ((with_reducible refine splitM.mk (fun hsm => ?_) (fun hsm => ?_)) <;> (try exact zx)) | ((with_reducible refine splitB.mk (fun h => ?_) (fun h => ?_)) <;> (try simp only [zs, ne_eq] at h) <;> (try simp (disch := omega) only [w64] at h) <;> (try exact zx)) | (with_reducible intro hz; (try exact absurd hz (Nat.succ_ne_zero _)))))
def s_gcdN : Spec := fun args S => match args, S with
  | [.int .i64 a, .int .i64 b], [] => ⟨0 ≤ a ∧ a < 9223372036854775808 ∧ 0 ≤ b ∧ b < 9223372036854775808, .int .i64 (Int.gcd a b), []⟩
  | _, _ => noSpec
theorem ok_l01Gcd : SpecOk Tryz.prog 190 s_gcdN := by
  intro args S h; unfold s_gcdN at h ⊢; (split at h <;> first | exact False.elim h | skip)
  dsimp only at h ⊢
  rename_i a b
  refine funW tabOk (E := []) trivial [] (k := 0) (fn := Tryz.f190) rfl rfl rfl rfl rfl rfl ?_
  (repeat' ((try (conv => whnf)); first | (with_reducible first | refine And.intro ?_ ?_ | refine WX.of ?_) | exact zc | ((with_reducible refine VC.mk ?_); exact zw) | (with_reducible first | refine splitT ?_ | refine splitF ?_) | ((with_reducible refine splitM.mk (fun hsm => ?_) (fun hsm => ?_)) <;> (try exact zx)) | ((with_reducible refine splitB.mk (fun h => ?_) (fun h => ?_)) <;> (try simp only [zs, ne_eq] at h) <;> (try simp (disch := omega) only [w64] at h) <;> (try exact zx)) | (with_reducible intro hz; (try exact absurd hz (Nat.succ_ne_zero _)))))
  refine loopW tabOk (E := []) trivial [] (σ := Int × Int) (fun s => [(0, .int .i64 s.1), (1, .int .i64 s.2)]) (fun _ => []) (fun s => s.2.natAbs) (fun s => Int.gcd s.1 s.2 = Int.gcd a b ∧ 0 ≤ s.1 ∧ s.1 < 9223372036854775808 ∧ 0 ≤ s.2 ∧ s.2 < 9223372036854775808) (a, b) ⟨rfl, h⟩ ?_ ?_
  · (repeat' ((try (conv => whnf)); first | (with_reducible first | refine And.intro ?_ ?_ | refine WX.of ?_) | exact zc | ((with_reducible refine VC.mk ?_); exact zw) | (with_reducible first | refine splitT ?_ | refine splitF ?_) | ((with_reducible refine splitM.mk (fun hsm => ?_) (fun hsm => ?_)) <;> (try exact zx)) | ((with_reducible refine splitB.mk (fun h => ?_) (fun h => ?_)) <;> (try simp only [zs, ne_eq] at h) <;> (try simp (disch := omega) only [w64] at h) <;> (try exact zx)) | (with_reducible intro hz; (try exact absurd hz (Nat.succ_ne_zero _)))))
  · rintro ⟨x, y⟩ ⟨hg, hr⟩
    dsimp only at hg hr
    (repeat' ((try (conv => whnf)); first | (with_reducible first | refine And.intro ?_ ?_ | refine WX.of ?_) | exact zc | ((with_reducible refine VC.mk ?_); exact zw) | (with_reducible first | refine splitT ?_ | refine splitF ?_) | ((with_reducible refine splitM.mk (fun hsm => ?_) (fun hsm => ?_)) <;> (try exact zx)) | ((with_reducible refine splitB.mk (fun h => ?_) (fun h => ?_)) <;> (try simp only [zs, ne_eq] at h) <;> (try simp (disch := omega) only [w64] at h) <;> (try exact zx)) | (with_reducible intro hz; (try exact absurd hz (Nat.succ_ne_zero _)))))
    · have := tmod_lt (a := x) h
      have h2 := Int.tmod_nonneg y hr.1
      refine ⟨(y, x.tmod y), this, ⟨by rw [← hg]; exact gcd_tmod, ?_⟩, ?_⟩
      · dsimp only; omega
      · (repeat' ((try (conv => whnf)); first | (with_reducible first | refine And.intro ?_ ?_ | refine WX.of ?_) | exact zc | ((with_reducible refine VC.mk ?_); exact zw) | (with_reducible first | refine splitT ?_ | refine splitF ?_) | ((with_reducible refine splitM.mk (fun hsm => ?_) (fun hsm => ?_)) <;> (try exact zx)) | ((with_reducible refine splitB.mk (fun h => ?_) (fun h => ?_)) <;> (try simp only [zs, ne_eq] at h) <;> (try simp (disch := omega) only [w64] at h) <;> (try exact zx)) | (with_reducible intro hz; (try exact absurd hz (Nat.succ_ne_zero _)))))
    · subst h
      simp at hg
      refine ⟨?_⟩
      dsimp only
      rw [← hg]
      congr 1
      omega
/-- A valid fraction. -/
def fOk (p q : Int) : Bool := decide (1 ≤ q ∧ q ≤ 1000000000 ∧ -1000000000 ≤ p ∧ p ≤ 1000000000 ∧ Int.gcd p q = 1)
theorem fOk_iff {p q : Int} : fOk p q = true ↔ 1 ≤ q ∧ q ≤ 1000000000 ∧ -1000000000 ≤ p ∧ p ≤ 1000000000 ∧ Int.gcd p q = 1 := by simp [fOk]
def s_fOk : Spec := fun args S => match args, S with
  | [.agg [.int .i64 p, .int .i64 q]], [] => ⟨True, .bool (fOk p q), []⟩
  | _, _ => noSpec
theorem gcd_abs (p q : Int) : Int.gcd (p.natAbs : Int) q = Int.gcd p q := by simp [Int.gcd]
theorem ok_ValidFrac : SpecOk Tryz.prog 96 s_fOk := by
  intro args S h; unfold s_fOk at h ⊢; (split at h <;> first | exact False.elim h | skip)
  dsimp only at h ⊢
  refine funW tabOk (E := [(106, s_within), (203, s_gcd)]) ⟨ok_within, ok_gcd, trivial⟩ [] (k := 0) (fn := Tryz.f96) rfl rfl rfl rfl rfl rfl ?_
  (repeat' ((try (conv => whnf)); first | (with_reducible first | refine And.intro ?_ ?_ | refine WX.of ?_) | exact zc | ((with_reducible refine VC.mk ?_); exact zw) | (with_reducible first | refine splitT ?_ | refine splitF ?_) | ((with_reducible refine splitM.mk (fun hsm => ?_) (fun hsm => ?_)) <;> (try exact zx)) | ((with_reducible refine splitB.mk (fun h => ?_) (fun h => ?_)) <;> (try simp only [zs, ne_eq] at h) <;> (try simp (disch := omega) only [w64] at h) <;> (try exact zx)) | (with_reducible intro hz; (try exact absurd hz (Nat.succ_ne_zero _)))))
  all_goals (refine ⟨congrArg SV.bool ?_⟩; (try dsimp only); (try simp (disch := omega) only [w64]); rw [Bool.eq_iff_iff]; try (simp [fOk]); try omega)
theorem ok_l01Ok : SpecOk Tryz.prog 192 s_fOk := by
  intro args S h; unfold s_fOk at h ⊢; (split at h <;> first | exact False.elim h | skip)
  dsimp only at h ⊢
  refine funW tabOk (E := [(198, s_within), (190, s_gcdN), (191, s_abs)]) ⟨ok_l00In, ok_l01Gcd, ok_l01Abs, trivial⟩ [(1, [(13, 2)])] (k := 0) (fn := Tryz.f192) rfl rfl rfl rfl rfl rfl ?_
  (repeat' ((try (conv => whnf)); first | (with_reducible first | refine And.intro ?_ ?_ | refine WX.of ?_) | exact zc | ((with_reducible refine VC.mk ?_); exact zw) | (with_reducible first | refine splitT ?_ | refine splitF ?_) | ((with_reducible refine splitM.mk (fun hsm => ?_) (fun hsm => ?_)) <;> (try exact zx)) | ((with_reducible refine splitB.mk (fun h => ?_) (fun h => ?_)) <;> (try simp only [zs, ne_eq] at h) <;> (try simp (disch := omega) only [w64] at h) <;> (try exact zx)) | (with_reducible intro hz; (try exact absurd hz (Nat.succ_ne_zero _)))))
  all_goals (refine ⟨congrArg SV.bool ?_⟩; (try dsimp only); (try simp (disch := omega) only [w64]); rw [Bool.eq_iff_iff]; try (simp [fOk, gcd_abs]); try omega)
theorem mulB {a b : Int} (ha : -1000000000 ≤ a ∧ a ≤ 1000000000) (hb : -1000000000 ≤ b ∧ b ≤ 1000000000) : -1000000000000000000 ≤ a * b ∧ a * b ≤ 1000000000000000000 := by
  have h1 : a.natAbs ≤ 1000000000 := by omega
  have h2 : b.natAbs ≤ 1000000000 := by omega
  have h3 := Nat.mul_le_mul h1 h2
  rw [← Int.natAbs_mul] at h3
  omega
theorem mulPos {a b : Int} (ha : 1 ≤ a) (hb : 1 ≤ b) : 1 ≤ a * b := by
  have := Int.mul_le_mul ha hb (by omega) (by omega)
  omega
/-- The parts of a fraction within bounds. -/
def smF (p q : Int) : Prop := (-1000000000 ≤ p ∧ p ≤ 1000000000) ∧ 1 ≤ q ∧ q ≤ 1000000000
theorem smF_ok {p q : Int} (h : fOk p q = true) : smF p q := by
  rw [fOk_iff] at h; unfold smF; omega
theorem smF_mul {p q p' q' : Int} (h : smF p q) (h' : smF p' q') :
    (-1000000000000000000 ≤ p * q' ∧ p * q' ≤ 1000000000000000000) ∧ (-1000000000000000000 ≤ p' * q ∧ p' * q ≤ 1000000000000000000) ∧ (-1000000000000000000 ≤ q * p' ∧ q * p' ≤ 1000000000000000000) ∧ (-1000000000000000000 ≤ p * p' ∧ p * p' ≤ 1000000000000000000) ∧ (1 ≤ q * q' ∧ q * q' ≤ 1000000000000000000) := by
  unfold smF at h h'
  exact ⟨mulB h.1 ⟨by omega, by omega⟩, mulB h'.1 ⟨by omega, by omega⟩, mulB ⟨by omega, by omega⟩ h'.1, mulB h.1 h'.1, mulPos h.2.1 h'.2.1, (mulB ⟨by omega, by omega⟩ ⟨by omega, by omega⟩).2⟩
def s_num : Spec := fun args S => match args, S with
  | [.int .i64 n], [] => ⟨True, .agg [.int .i64 n, .int .i64 1], []⟩
  | _, _ => noSpec
theorem ok_l01Whole : SpecOk Tryz.prog 114 s_num := by
  intro args S h; unfold s_num at h ⊢; (split at h <;> first | exact False.elim h | skip)
  dsimp only at h ⊢
  refine funW tabOk (E := []) trivial [] (k := 0) (fn := Tryz.f114) rfl rfl rfl rfl rfl rfl ?_
  (repeat' ((try (conv => whnf)); first | (with_reducible first | refine And.intro ?_ ?_ | refine WX.of ?_) | exact zc | ((with_reducible refine VC.mk ?_); exact zw) | (with_reducible first | refine splitT ?_ | refine splitF ?_) | ((with_reducible refine splitM.mk (fun hsm => ?_) (fun hsm => ?_)) <;> (try exact zx)) | ((with_reducible refine splitB.mk (fun h => ?_) (fun h => ?_)) <;> (try simp only [zs, ne_eq] at h) <;> (try simp (disch := omega) only [w64] at h) <;> (try exact zx)) | (with_reducible intro hz; (try exact absurd hz (Nat.succ_ne_zero _)))))
end Go.Proofs.YtamachahlhlhlaaGreatDoor.Eng
set_option linter.unusedVariables false
set_option linter.unusedSimpArgs false
namespace Go.Proofs.YtamachahlhlhlaaGreatDoor.Eng
open Go Go.RowKit
set_option maxRecDepth 100000
def sh_lays156_ren : Go.Shelf.Ren := ⟨fun | 156 => 109 | 165 => 210 | 166 => 211 | 169 => 212 | 240 => 272 | 241 => 273 | 276 => 306 | 277 => 307 | n => n, fun | 31 => 150 | 9 => 9 | 3 => 3 | 4 => 4 | 0 => 0 | 20 => 20 | 72 => 233 | 76 => 235 | 70 => 231 | 37 => 22 | 75 => 227 | 127 => 282 | 164 => 309 | 5 => 5 | 80 => 237 | n => n, fun | n => n⟩
theorem sh_lays156 : Go.Proofs.Lays.n156 Tryz.prog sh_lays156_ren := {
  mixed := by kernel_rfl
  f156 := Tryz.func109.trans (congrArg some (by kernel_rfl))
  f165 := Tryz.func210.trans (congrArg some (by kernel_rfl))
  f166 := Tryz.func211.trans (congrArg some (by kernel_rfl))
  f169 := Tryz.func212.trans (congrArg some (by kernel_rfl))
  f240 := Tryz.func272.trans (congrArg some (by kernel_rfl))
  f241 := Tryz.func273.trans (congrArg some (by kernel_rfl))
  f276 := Tryz.func306.trans (congrArg some (by kernel_rfl))
  f277 := Tryz.func307.trans (congrArg some (by kernel_rfl))
  t0 := Tryz.underlying0
  a0 := Tryz.isAgg0
  z0 := Tryz.sizeOf0
  v0 := Tryz.zeroValue0
  t3 := Tryz.underlying3
  a3 := Tryz.isAgg3
  z3 := Tryz.sizeOf3
  v3 := Tryz.zeroValue3
  t4 := Tryz.underlying4
  a4 := Tryz.isAgg4
  z4 := Tryz.sizeOf4
  v4 := Tryz.zeroValue4
  t9 := Tryz.underlying9
  a9 := Tryz.isAgg9
  z9 := Tryz.sizeOf9
  v9 := Tryz.zeroValue9
  t20 := Tryz.underlying20
  a20 := Tryz.isAgg20
  z20 := Tryz.sizeOf20
  v20 := Tryz.zeroValue20
  t31 := Tryz.underlying150
  a31 := Tryz.isAgg150
  z31 := Tryz.sizeOf150
  v31 := Tryz.zeroValue150
  t37 := Tryz.underlying22
  a37 := Tryz.isAgg22
  z37 := Tryz.sizeOf22
  v37 := Tryz.zeroValue22
  t70 := Tryz.underlying231
  a70 := Tryz.isAgg231
  z70 := Tryz.sizeOf231
  v70 := Tryz.zeroValue231
  t72 := Tryz.underlying233
  a72 := Tryz.isAgg233
  z72 := Tryz.sizeOf233
  v72 := Tryz.zeroValue233
  t75 := Tryz.underlying227
  a75 := Tryz.isAgg227
  z75 := Tryz.sizeOf227
  v75 := Tryz.zeroValue227
  t76 := Tryz.underlying235
  a76 := Tryz.isAgg235
  z76 := Tryz.sizeOf235
  v76 := Tryz.zeroValue235
  t127 := Tryz.underlying282
  a127 := Tryz.isAgg282
  z127 := Tryz.sizeOf282
  v127 := Tryz.zeroValue282
  t164 := Tryz.underlying309
  a164 := Tryz.isAgg309
  z164 := Tryz.sizeOf309
  v164 := Tryz.zeroValue309 }
theorem sh_Builder_Extra_156 : Builder.Extra Tryz.prog sh_lays156_ren := {
  sizeBuilder := by kernel_rfl
  liesBuilder := by kernel_rfl
  t5 := Tryz.underlying5
  a5 := Tryz.isAgg5
  z5 := Tryz.sizeOf5
  v5 := Tryz.zeroValue5
  infoByte := by kernel_rfl
  cellsByte := by kernel_rfl
  sizeByte := by kernel_rfl
  neB5 := by decide }
open Go.RowKit in
/-- strings.Join: "Join concatenates the elements of its first argument to create a single string. The separator string sep is placed between elements in the resulting string.": HOWEVER MANY ELEMENTS. Below the heap's end the world is as it was. (LAID: no walk: one application.) -/
theorem sh_strings_Join (bk o c : Nat) (xs : List ByteArray) (sep : ByteArray) (w : World) (hcells : ∀ (j : Nat) x, xs[j]? = some x → w.cell? ⟨bk, o + j, none⟩ = some (.string x)) (hbk : bk < w.heap.size) (hN : xs.length ≤ 140737488355328) (hcap : xs.length ≤ c) (hlen : (Lib.join (xs.map (·.data.toList)) sep.data.toList).length ≤ 140737488355328) :
    Calls Tryz.prog 109 #[.slice (some ⟨bk, o, none⟩) xs.length c, .string sep] w fun e w' => e = .returned (.string ⟨(Lib.join (xs.map (·.data.toList)) sep.data.toList).toArray⟩) ∧ Below w.heap.size w w' := Any.strings_Join sh_lays156 sh_Builder_Extra_156 bk o c xs sep w hcells hbk hN hcap hlen
def sh_laysM173_ren : Go.Shelf.Ren := ⟨fun | 173 => 213 | 246 => 274 | 283 => 308 | 284 => 309 | 285 => 310 | 286 => 311 | 129 => 327 | 317 => 326 | 318 => 328 | 319 => 329 | 320 => 330 | 337 => 338 | 338 => 339 | n => n, fun | 2 => 2 | 3 => 3 | 9 => 9 | 4 => 4 | 171 => 312 | 0 => 0 | 53 => 214 | 37 => 22 | 5 => 5 | 173 => 315 | 212 => 327 | 51 => 328 | 20 => 20 | 213 => 329 | 46 => 275 | 232 => 344 | 233 => 345 | n => n, fun | 17 => 3 | 18 => 6 | 19 => 7 | n => n⟩
theorem sh_laysM173 : Go.Proofs.LaysM.n173 Tryz.prog sh_laysM173_ren := {
  mixed := by kernel_rfl
  f129 := Tryz.func327.trans (congrArg some (by kernel_rfl))
  f173 := Tryz.func213.trans (congrArg some (by kernel_rfl))
  f246 := Tryz.func274.trans (congrArg some (by kernel_rfl))
  f283 := Tryz.func308.trans (congrArg some (by kernel_rfl))
  f284 := Tryz.func309.trans (congrArg some (by kernel_rfl))
  f285 := Tryz.func310.trans (congrArg some (by kernel_rfl))
  f286 := Tryz.func311.trans (congrArg some (by kernel_rfl))
  f317 := Tryz.func326.trans (congrArg some (by kernel_rfl))
  f318 := Tryz.func328.trans (congrArg some (by kernel_rfl))
  f319 := Tryz.func329.trans (congrArg some (by kernel_rfl))
  f320 := Tryz.func330.trans (congrArg some (by kernel_rfl))
  f337 := Tryz.func338.trans (congrArg some (by kernel_rfl))
  f338 := Tryz.func339.trans (congrArg some (by kernel_rfl))
  t0 := Tryz.underlying0
  a0 := Tryz.isAgg0
  z0 := Tryz.sizeOf0
  v0 := Tryz.zeroValue0
  t2 := Tryz.underlying2
  a2 := Tryz.isAgg2
  z2 := Tryz.sizeOf2
  v2 := Tryz.zeroValue2
  t3 := Tryz.underlying3
  a3 := Tryz.isAgg3
  z3 := Tryz.sizeOf3
  v3 := Tryz.zeroValue3
  t4 := Tryz.underlying4
  a4 := Tryz.isAgg4
  z4 := Tryz.sizeOf4
  v4 := Tryz.zeroValue4
  t5 := Tryz.underlying5
  a5 := Tryz.isAgg5
  z5 := Tryz.sizeOf5
  v5 := Tryz.zeroValue5
  t9 := Tryz.underlying9
  a9 := Tryz.isAgg9
  z9 := Tryz.sizeOf9
  v9 := Tryz.zeroValue9
  t20 := Tryz.underlying20
  a20 := Tryz.isAgg20
  z20 := Tryz.sizeOf20
  v20 := Tryz.zeroValue20
  t37 := Tryz.underlying22
  a37 := Tryz.isAgg22
  z37 := Tryz.sizeOf22
  v37 := Tryz.zeroValue22
  t46 := Tryz.underlying275
  a46 := Tryz.isAgg275
  z46 := Tryz.sizeOf275
  v46 := Tryz.zeroValue275
  t51 := Tryz.underlying328
  a51 := Tryz.isAgg328
  z51 := Tryz.sizeOf328
  v51 := Tryz.zeroValue328
  t53 := Tryz.underlying214
  a53 := Tryz.isAgg214
  z53 := Tryz.sizeOf214
  v53 := Tryz.zeroValue214
  t171 := Tryz.underlying312
  a171 := Tryz.isAgg312
  z171 := Tryz.sizeOf312
  v171 := Tryz.zeroValue312
  t173 := Tryz.underlying315
  a173 := Tryz.isAgg315
  z173 := Tryz.sizeOf315
  v173 := Tryz.zeroValue315
  t212 := Tryz.underlying327
  a212 := Tryz.isAgg327
  z212 := Tryz.sizeOf327
  v212 := Tryz.zeroValue327
  t213 := Tryz.underlying329
  a213 := Tryz.isAgg329
  z213 := Tryz.sizeOf329
  t232 := Tryz.underlying344
  a232 := Tryz.isAgg344
  z232 := Tryz.sizeOf344
  v232 := Tryz.zeroValue344
  t233 := Tryz.underlying345
  a233 := Tryz.isAgg345
  z233 := Tryz.sizeOf345
  v233 := Tryz.zeroValue345
  g17 := by kernel_rfl
  g18 := by kernel_rfl
  g19 := by kernel_rfl
  i0 := by kernel_rfl
  i2 := by kernel_rfl
  i3 := by kernel_rfl
  i4 := by kernel_rfl
  i5 := by kernel_rfl
  i9 := by kernel_rfl
  i20 := by kernel_rfl
  i37 := by kernel_rfl
  i46 := by kernel_rfl
  i51 := by kernel_rfl
  i53 := by kernel_rfl
  i171 := by kernel_rfl
  i173 := by kernel_rfl
  i212 := by kernel_rfl
  i232 := by kernel_rfl
  i233 := by kernel_rfl
  m17 := by kernel_rfl
  m18 := by kernel_rfl
  m19 := by kernel_rfl }
open Go.RowKit Go.Sort Go.Lib in
/-- strconv.FormatInt: "FormatInt returns the string representation of i in the given base": AT BASE 10: i's decimal numeral, for every int64. (LAID: no walk: one application.) -/
theorem sh_strconv_FormatInt_10 (n : Int) (h0 : -9223372036854775808 ≤ n) (h1 : n ≤ 9223372036854775807) (w : World) (htab : Lib.TabIs Tryz.prog w "internal/strconv.uint64pow10" .u64 Lib.pow10Tab) :
    Calls Tryz.prog 213 #[.int .i64 n, .int .i64 10] w fun e w' => e = .returned (.string ⟨(Lib.itoa n).toArray⟩) ∧ ∃ k os, w' = grow (w.drewN k) os := Any.strconv_FormatInt_10 sh_laysM173 n h0 h1 w htab
/-- A variable that holds something at first holds it later. -/
theorem var_below {P : Program} {w0 w : World} {name : String} {x : Array Value} (hb : Below w0.heap.size w0 w) (hg : w0.var? P name = some x) : w.var? P name = some x := by
  unfold World.var? at hg ⊢
  cases e : P.globalNamed name with
  | none => rw [e] at hg; cases hg
  | some g =>
    rw [e] at hg
    simp only [Option.bind_some] at hg ⊢
    have hlt : g < w0.heap.size := by
      rcases Nat.lt_or_ge g w0.heap.size with h' | h'
      · exact h'
      · rw [Array.getElem?_eq_none h'] at hg; cases hg
    rw [hb.block g hlt]
    exact hg
/-- The table that the numbers' texts are made of, wherever the walk stands. -/
theorem HRel.tab {w0 w : World} {ι : Ren} {H : Heap} (h : HRel w0 ι H w) : Lib.TabIs Tryz.prog w "internal/strconv.uint64pow10" .u64 Lib.pow10Tab := by
  have hg : Lib.TabIs Tryz.prog w0 "internal/strconv.uint64pow10" .u64 Lib.pow10Tab := by first | exact h.glob.1 | exact h.glob.1.1
  exact var_below h.below hg
/-- A world that a call has left as it was, but for blocks of its own. -/
theorem HRel.after {w0 w w' : World} {ι : Ren} {H : Heap} (h : HRel w0 ι H w) (hb : Below w.heap.size w w') : HRel w0 ι H w' :=
  ⟨h.below.trans ⟨hb.os, hb.tape, hb.output, hb.size, fun k hk => hb.block k (Nat.lt_of_lt_of_le hk h.below.size)⟩, h.dom, fun id L b hi hbk => by
    obtain ⟨c, e, fr, q1, q⟩ := h.blk id L b hi hbk
    exact ⟨c, e, fr, by rw [hb.block L.blk (h.lt hi hbk)]; exact q1, q⟩, h.sep, h.flat, h.tot, h.glob.1, trivial⟩
/-- A call of flat values that answers a flat value and leaves what was. -/
theorem Runs_flat {f : FuncId} {H : Heap} {more : List Value} {v : Value} (hen : Enters Tryz.prog f) (hmore : ∀ {ι : Ren} {ys : List Value}, LRel ι more ys → ys = more) (hv : flatV v = true)
    (hcon : ∀ w, Lib.TabIs Tryz.prog w "internal/strconv.uint64pow10" .u64 Lib.pow10Tab → Calls Tryz.prog f ⟨more⟩ w fun e w' => e = .returned v ∧ Below w.heap.size w w') :
    Runs Tryz.prog f more H (fun u G => u = v ∧ G = H) := by
  refine ⟨hen, fun w0 ι w args' h2 h3 => ?_⟩
  have := hmore h3
  subst this
  refine (hcon w h2.tab).mono fun e w' ⟨he, hb⟩ => ?_
  exact ⟨_, _, _, ι, he, ⟨rfl, rfl⟩, .flat hv, h2.after hb, .refl _ _, OCs.refl _ _, Nat.le_refl _⟩
end Go.Proofs.YtamachahlhlhlaaGreatDoor.Eng
set_option linter.unusedVariables false
set_option linter.unusedSimpArgs false
namespace Go.Proofs.YtamachahlhlhlaaGreatDoor.Eng
open Go Go.RowKit
set_option maxRecDepth 100000
/-- One byte turned to a text. -/
theorem conv_one {P : Program} {w : World} {s d b : Nat} {x : Int} (hc : w.cell? ⟨b, 0, none⟩ = some (.int .u8 x)) (h1 : P.underlying s = some (.slice 5)) (h2 : P.underlying 5 = some (.int .u8)) (h3 : P.underlying d = some .string) :
    Sem.run P (convert s d (.slice (some ⟨b, 0, none⟩) 1 1)) w = .ok (.string ⟨#[UInt8.ofNat x.toNat]⟩) w := by
  rw [run_convert_bytes_string w s d 5 _ _ _ h1 h2 h3]
  have hld : (loadCells ⟨b, 0, none⟩ 1).run P w = .ok ([x].map (Value.int .u8)).toArray w :=
    run_loadCells (P := P) w _ 1 (fun _ => .int .u8 x) fun j hj => by
      obtain rfl : j = 0 := by omega
      exact hc
  rw [run_bytesToString w _ 1 1 [x] hld]
  rfl
/-- The digits of a number that is at least 0, k + 1 of them at most. -/
def decT : Nat → Int → List UInt8
  | 0, n => [UInt8.ofNat (48 + n % 10).toNat]
  | k + 1, n => if n < 10 then [UInt8.ofNat (48 + n % 10).toNat] else decT k (n / 10) ++ [UInt8.ofNat (48 + n % 10).toNat]
theorem decT_len : ∀ (k : Nat) (n : Int), (decT k n).length ≤ k + 1
  | 0, n => by simp [decT]
  | k + 1, n => by
    have := decT_len k (n / 10)
    simp only [decT]
    split
    · simp
    · simp; omega
set_option maxRecDepth 100000 in
theorem dec_calls : ∀ (k : Nat) (n : Int) (w : World), k ≤ 100 → 0 ≤ n → n < 10 ^ (k + 1) → n ≤ 9223372036854775807 →
    Calls Tryz.prog 253 #[.int .i64 n] w fun e w' => e = .returned (.string ⟨(decT k n).toArray⟩) ∧ Below w.heap.size w w' := by
  intro k
  induction k with
  | zero =>
    intro n w hk h0 h1 h2
    have h3 : n < 10 := by simpa using h1
    go_enter Tryz.func253, Tryz.ntmps253
    go_wp2
    rw [conv_one (x := 48 + n % 10) (by go_simp) (by kernel_rfl) (by kernel_rfl) (by kernel_rfl)]
    go_wp2
    go_ret
    exact ⟨rfl, (Below.refl _ w).alloc (Nat.le_refl _) _⟩
  | succ k ih =>
    intro n w hk h0 h1 h2
    by_cases h3 : n < 10
    · go_enter Tryz.func253, Tryz.ntmps253
      go_wp2
      rw [conv_one (x := 48 + n % 10) (by go_simp) (by kernel_rfl) (by kernel_rfl) (by kernel_rfl)]
      go_wp2
      go_ret
      refine ⟨?_, (Below.refl _ w).alloc (Nat.le_refl _) _⟩
      rw [show decT (k + 1) n = [UInt8.ofNat (48 + n % 10).toNat] from if_pos h3]
      rfl
    · go_enter Tryz.func253, Tryz.ntmps253
      have hconv : ∀ (W : World) (b : Nat) (x : Int), W.cell? ⟨b, 0, none⟩ = some (.int .u8 x) → Sem.run Tryz.prog (convert 22 9 (.slice (some ⟨b, 0, none⟩) 1 1)) W = .ok (.string ⟨#[UInt8.ofNat x.toNat]⟩) W :=
        fun W b x hc => conv_one hc (by kernel_rfl) (by kernel_rfl) (by kernel_rfl)
      have ihx : ∀ W, Calls Tryz.prog 253 #[.int .i64 (IntKind.i64.wrap (n.tdiv 10))] W fun e w' => e = .returned (.string ⟨(decT k (n / 10)).toArray⟩) ∧ Below W.heap.size W w' := fun W => by
        have e : IntKind.i64.wrap (n.tdiv 10) = n / 10 := by rw [Int.tdiv_eq_ediv_of_nonneg h0, w64 (by omega)]
        rw [e]
        refine ih _ _ (by omega) (by omega) ?_ (by omega)
        have : (10 : Int) ^ (k + 1 + 1) = 10 ^ (k + 1) * 10 := Int.pow_succ ..
        omega
      have hl := decT_len k (n / 10)
      have hl1 : (decT k (n / 10)).length + 1 ≤ 9223372036854775807 := by omega
      have hl2 : ¬ 9223372036854775807 < (decT k (n / 10)).length + 1 := by omega
      have hl3 : (decT k (n / 10)).length < 9223372036854775807 := by omega
      have hl4 : (decT k (n / 10)).length ≤ 9223372036854775806 := by omega
      have e1 : IntKind.u8.wrap (IntKind.i64.wrap (48 + n.tmod 10)) = 48 + n % 10 := by
        rw [Int.tmod_eq_emod_of_nonneg h0, w64 (by omega)]
        simp [IntKind.wrap, IntKind.bits, IntKind.signed]
        omega
      have mk1 : ∀ {W' : World}, Below (w.drew.alloc (.cells #[.int .u8 (48 + n % 10)] 5)).heap.size (w.drew.alloc (.cells #[.int .u8 (48 + n % 10)] 5)) W' → W'.cell? ⟨w.heap.size, 0, none⟩ = some (.int .u8 (48 + n % 10)) := fun hb => by
        have hc : (w.drew.alloc (.cells #[.int .u8 (48 + n % 10)] 5)).cell? ⟨w.heap.size, 0, none⟩ = some (.int .u8 (48 + n % 10)) := by go_simp
        exact (hb.cell (World.block_lt_of_cell? _ _ hc)).trans hc
      go_wp2
      go_region_with (go_at_call 253; refine (ihx _).mono ?_; rintro e w' ⟨rfl, hb⟩; try have hq := mk1 hb)
      all_goals go_wp2
      all_goals go_ret
      all_goals
        refine ⟨?_, ?_⟩
        · rw [show decT (k + 1) n = decT k (n / 10) ++ [UInt8.ofNat (48 + n % 10).toNat] from if_neg (by omega)]
          show Ending.returned (Value.string ((⟨(decT k (n / 10)).toArray⟩ : ByteArray) ++ (⟨#[UInt8.ofNat (48 + n % 10).toNat]⟩ : ByteArray))) = _
          have key : ((⟨(decT k (n / 10)).toArray⟩ : ByteArray) ++ (⟨#[UInt8.ofNat (48 + n % 10).toNat]⟩ : ByteArray)) = ⟨(decT k (n / 10) ++ [UInt8.ofNat (48 + n % 10).toNat]).toArray⟩ := ByteArray.ext (by simp)
          rw [key]
        · first
            | exact ((Below.refl _ w).trans (show Below w.heap.size w w' from ⟨hb.os, hb.tape, hb.output, hb.size, hb.block⟩)).alloc hb.size _
            | exact ⟨hb.os, hb.tape, hb.output, Nat.le_trans (by simp) hb.size, fun k hk => (hb.block k (by simp; omega)).trans (heap_alloc_old _ _ hk)⟩
end Go.Proofs.YtamachahlhlhlaaGreatDoor.Eng
set_option linter.unusedVariables false
set_option linter.unusedSimpArgs false
namespace Go.Proofs.YtamachahlhlhlaaGreatDoor.Eng
open Go Go.RowKit
set_option maxRecDepth 100000
/-- A call of flat values, told by the machine's own word. -/
theorem RunsS_flat {f : FuncId} {args : List SV} {S : List SB} {v : SV} (hen : Enters Tryz.prog f) (ha : args.all flatS = true) (hv : flatS v = true)
    (hcon : ∀ w, Lib.TabIs Tryz.prog w "internal/strconv.uint64pow10" .u64 Lib.pow10Tab → Calls Tryz.prog f ⟨args.map toV⟩ w fun e w' => e = .returned (toV v) ∧ Below w.heap.size w w') : RunsS Tryz.prog f args S v S := by
  intro H ρ args' hD hd h
  have e := LDR.fun2 h (map_toV ha ρ)
  subst e
  have hfl := (map_toV ha ρ).flat ha
  have h1 := map_toV (xs := [v]) (by simp [hv]) ρ
  have hvf : flatV (toV v) = true := (List.all_eq_true.1 (h1.flat (by simp [hv]))) _ (by simp)
  obtain ⟨u, r, e1, hdr, _⟩ := h1.inv_cons
  obtain ⟨rfl, _⟩ := List.cons.inj e1
  refine ⟨toV v, H, ρ, Runs_flat hen (fun hl => (hl.flat_eq fun v hv => List.all_eq_true.1 hfl v hv)) hvf hcon, hdr, .refl hD hd⟩
/-- Numbers' texts. -/
def dcl (n : Int) : List UInt8 := decT 18 n
def sgT (n : Int) : List UInt8 := if n < 0 then 45 :: dcl (-n) else dcl n
theorem decT_19 (n : Int) : (dcl n).length ≤ 19 := decT_len 18 n
theorem sgT_20 (n : Int) : (sgT n).length ≤ 20 := by
  unfold sgT
  split
  · have := decT_19 (-n); simp; omega
  · have := decT_19 n; omega
def s_dcl : Spec := fun args S => match args, S with
  | [.int .i64 n], [] => ⟨0 ≤ n ∧ n ≤ 9223372036854775807, .str (dcl n), []⟩
  | _, _ => noSpec
theorem ok_dcl : SpecOk Tryz.prog 253 s_dcl := by
  intro args S h; unfold s_dcl at h ⊢; (split at h <;> first | exact False.elim h | skip)
  dsimp only at h ⊢
  rename_i n
  refine RunsS_flat ⟨Tryz.f253, rfl, rfl, rfl⟩ rfl rfl fun w _ => ?_
  exact dec_calls 18 n w (by omega) h.1 (by have : (10 : Int) ^ (18 + 1) = 10000000000000000000 := by decide
                                            omega) h.2
def s_sgT : Spec := fun args S => match args, S with
  | [.int .i64 n], [] => ⟨-9223372036854775807 ≤ n ∧ n ≤ 9223372036854775807, .str (sgT n), []⟩
  | _, _ => noSpec
theorem ok_sgT : SpecOk Tryz.prog 295 s_sgT := by
  intro args S h; unfold s_sgT at h ⊢; (split at h <;> first | exact False.elim h | skip)
  dsimp only at h ⊢
  rename_i n
  have h1 := decT_19 (-n)
  by_cases hn : n < 0
  · rw [show sgT n = 45 :: dcl (-n) from if_pos hn]
    have e : IntKind.i64.wrap (-n) = -n := w64 (by omega)
    refine funW tabOk (E := [(253, s_dcl)]) ⟨ok_dcl, trivial⟩ [] (k := 0) (fn := Tryz.f295) rfl rfl rfl rfl rfl rfl ?_
    (repeat' ((try (conv => whnf)); first | (with_reducible first | refine And.intro ?_ ?_ | refine WX.of ?_) | exact zc | ((with_reducible refine VC.mk ?_); exact zw) | ((with_reducible refine VC.mk ?_); exact ⟨by omega, by omega⟩) | (with_reducible first | refine splitT ?_ | refine splitF ?_) | ((with_reducible refine splitM.mk (fun hsm => ?_) (fun hsm => ?_)) <;> (try exact zx)) | ((with_reducible refine splitB.mk (fun h => ?_) (fun h => ?_)) <;> (try simp only [zs, ne_eq] at h) <;> (try simp (disch := omega) only [w64] at h) <;> (try exact zx)) | (with_reducible intro hz; (try exact absurd hz (Nat.succ_ne_zero _)))))
    · rw [show (0 - n : Int) = -n by omega, e]
      exact ⟨by simp; omega⟩
    · rw [show (0 - n : Int) = -n by omega, e]
      exact ⟨rfl⟩
  · rw [show sgT n = dcl n from if_neg hn]
    refine funW tabOk (E := [(253, s_dcl)]) ⟨ok_dcl, trivial⟩ [] (k := 0) (fn := Tryz.f295) rfl rfl rfl rfl rfl rfl ?_
    (repeat' ((try (conv => whnf)); first | (with_reducible first | refine And.intro ?_ ?_ | refine WX.of ?_) | exact zc | ((with_reducible refine VC.mk ?_); exact zw) | ((with_reducible refine VC.mk ?_); exact ⟨by omega, by omega⟩) | (with_reducible first | refine splitT ?_ | refine splitF ?_) | ((with_reducible refine splitM.mk (fun hsm => ?_) (fun hsm => ?_)) <;> (try exact zx)) | ((with_reducible refine splitB.mk (fun h => ?_) (fun h => ?_)) <;> (try simp only [zs, ne_eq] at h) <;> (try simp (disch := omega) only [w64] at h) <;> (try exact zx)) | (with_reducible intro hz; (try exact absurd hz (Nat.succ_ne_zero _)))))
def s_itoa : Spec := fun args S => match args, S with
  | [.int .i64 n, .int .i64 10], [] => ⟨-9223372036854775808 ≤ n ∧ n ≤ 9223372036854775807, .str (Lib.itoa n), []⟩
  | _, _ => noSpec
theorem ok_itoa : SpecOk Tryz.prog 213 s_itoa := by
  intro args S h; unfold s_itoa at h ⊢; (split at h <;> first | exact False.elim h | skip)
  dsimp only at h ⊢
  rename_i n
  refine RunsS_flat ⟨Tryz.f213, rfl, rfl, rfl⟩ rfl rfl fun w ht => ?_
  refine (sh_strconv_FormatInt_10 n h.1 h.2 w ht).mono fun e w' ⟨he, k, os, hw⟩ => ⟨he, ?_⟩
  rw [hw]
  exact ⟨rfl, rfl, rfl, by simp [Go.Sort.grow, World.drewN], fun k hk => Go.Sort.heap_grow_old (w.drewN _) os (by simpa [World.drewN] using hk)⟩
theorem decT_dig : ∀ (k u : Nat), u < 10 ^ (k + 1) → decT k u = Lib.decDigits u
  | 0, u, h => by
    have h : u < 10 := by simpa using h
    rw [Lib.decDigits, dif_pos h, decT, show (48 + (u : Int) % 10).toNat = 48 + u by omega]
  | k + 1, u, h => by
    rw [Lib.decDigits]
    by_cases h1 : u < 10
    · rw [dif_pos h1, decT, if_pos (by omega), show (48 + (u : Int) % 10).toNat = 48 + u by omega]
    · rw [dif_neg h1, decT, if_neg (by omega), show (u : Int) / 10 = ((u / 10 : Nat) : Int) by omega, decT_dig k (u / 10) (by
        have : 10 ^ (k + 1 + 1) = 10 ^ (k + 1) * 10 := Nat.pow_succ ..
        omega), show (48 + (u : Int) % 10).toNat = 48 + u % 10 by omega]
theorem dcl_dig {n : Int} (h0 : 0 ≤ n) (h1 : n ≤ 9223372036854775808) : dcl n = Lib.decDigits n.toNat := by
  have := decT_dig 18 n.toNat (by have : 10 ^ (18 + 1) = 10000000000000000000 := by decide
                                  omega)
  rw [← this, dcl, show ((n.toNat : Nat) : Int) = n by omega]
theorem itoa_sgT {n : Int} (h0 : -9223372036854775807 ≤ n) (h1 : n ≤ 9223372036854775807) : Lib.itoa n = sgT n := by
  unfold Lib.itoa sgT
  split
  · rw [dcl_dig (by omega) (by omega), show n.natAbs = (-n).toNat by omega]
  · rw [dcl_dig (by omega) (by omega)]
theorem ok_decI : SpecOk Tryz.prog 110 s_sgT := by
  intro args S h; unfold s_sgT at h ⊢; (split at h <;> first | exact False.elim h | skip)
  dsimp only at h ⊢
  rename_i n
  rw [← itoa_sgT h.1 h.2]
  refine funW tabOk (E := [(213, s_itoa)]) ⟨ok_itoa, trivial⟩ [] (k := 0) (fn := Tryz.f110) rfl rfl rfl rfl rfl rfl ?_
  (repeat' ((try (conv => whnf)); first | (with_reducible first | refine And.intro ?_ ?_ | refine WX.of ?_) | exact zc | ((with_reducible refine VC.mk ?_); exact zw) | ((with_reducible refine VC.mk ?_); exact ⟨by omega, by omega⟩) | (with_reducible first | refine splitT ?_ | refine splitF ?_) | ((with_reducible refine splitM.mk (fun hsm => ?_) (fun hsm => ?_)) <;> (try exact zx)) | ((with_reducible refine splitB.mk (fun h => ?_) (fun h => ?_)) <;> (try simp only [zs, ne_eq] at h) <;> (try simp (disch := omega) only [w64] at h) <;> (try exact zx)) | (with_reducible intro hz; (try exact absurd hz (Nat.succ_ne_zero _)))))
end Go.Proofs.YtamachahlhlhlaaGreatDoor.Eng
set_option linter.unusedVariables false
set_option linter.unusedSimpArgs false
namespace Go.Proofs.YtamachahlhlhlaaGreatDoor.Eng
open Go Go.RowKit
set_option maxRecDepth 100000
/-- A text split at each such byte. -/
def splL (c : UInt8) : List UInt8 → List (List UInt8)
  | [] => [[]]
  | x :: r => if x = c then [] :: splL c r else match splL c r with
    | h :: t => (x :: h) :: t
    | [] => [[x]]
theorem splL_ne (c : UInt8) : ∀ s, splL c s ≠ []
  | [] => by simp [splL]
  | x :: r => by
    simp only [splL]
    split
    · simp
    · split <;> simp
theorem splL_no {c : UInt8} : ∀ {s : List UInt8}, c ∉ s → splL c s = [s]
  | [], _ => rfl
  | x :: r, h => by
    have h1 : ¬ x = c := fun e => h (by rw [e]; exact List.mem_cons_self)
    have h2 := splL_no (c := c) (s := r) fun e => h (List.mem_cons_of_mem _ e)
    simp only [splL]
    rw [if_neg h1, h2]
theorem splL_app {c : UInt8} : ∀ {a b : List UInt8}, c ∉ a → splL c (a ++ c :: b) = a :: splL c b
  | [], b, _ => by simp [splL]
  | x :: a, b, h => by
    have h1 : ¬ x = c := fun e => h (by rw [e]; exact List.mem_cons_self)
    have h2 := splL_app (c := c) (a := a) (b := b) fun e => h (List.mem_cons_of_mem _ e)
    simp only [List.cons_append, splL]
    rw [if_neg h1, h2]
/-- The numbers of a list of digits, behind a number. -/
def digR : Int → List UInt8 → Option Int
  | n, [] => some n
  | n, x :: r => if x.toNat < 48 ∨ 57 < x.toNat then none else digR (10 * n + (x.toNat - 48 : Int)) r
theorem digR_app : ∀ (a b : List UInt8) (n : Int), digR n (a ++ b) = (digR n a).bind fun k => digR k b
  | [], b, n => rfl
  | x :: a, b, n => by
    simp only [List.cons_append, digR]
    split
    · rfl
    · exact digR_app a b _
theorem dig_b {d : Int} (h0 : 0 ≤ d) (h1 : d < 10) : (UInt8.ofNat (48 + d).toNat).toNat = 48 + d.toNat := by
  have e : (48 + d).toNat = 48 + d.toNat := by omega
  rw [e, UInt8.toNat_ofNat_of_lt' (show _ < 256 by omega)]
theorem digR_decT : ∀ (k : Nat) (n : Int), 0 ≤ n → n < 10 ^ (k + 1) → digR 0 (decT k n) = some n
  | 0, n, h0, h1 => by
    have h1 : n < 10 := by simpa using h1
    have e := dig_b (d := n % 10) (by omega) (by omega)
    simp only [decT, digR]
    rw [e, if_neg (by omega)]
    congr 1
    omega
  | k + 1, n, h0, h1 => by
    have e := dig_b (d := n % 10) (by omega) (by omega)
    simp only [decT]
    split
    · simp only [digR]
      rw [e, if_neg (by omega)]
      congr 1
      omega
    · rw [digR_app, digR_decT k (n / 10) (by omega) (by
        have : (10 : Int) ^ (k + 1 + 1) = 10 ^ (k + 1) * 10 := Int.pow_succ ..
        omega)]
      simp only [Option.bind_some, digR]
      rw [e, if_neg (by omega)]
      congr 1
      omega
theorem decT_10 : ∀ (k : Nat) (n : Int) (m : Nat), 0 ≤ n → n < 10 ^ m → 1 ≤ m → (decT k n).length ≤ m
  | 0, n, m, _, _, h => by simp [decT]; exact h
  | k + 1, n, m, h0, h1, h2 => by
    simp only [decT]
    split
    · simp; exact h2
    · rename_i h3
      match m, h1, h2 with
      | 1, h1, _ => exact absurd (by simpa using h1) h3
      | m + 2, h1, _ =>
        have := decT_10 k (n / 10) (m + 1) (by omega) (by
          have : (10 : Int) ^ (m + 2) = 10 ^ (m + 1) * 10 := Int.pow_succ ..
          omega) (by omega)
        simp
        exact this
/-- A number of several digits does not begin with a naught. -/
theorem decT_h : ∀ (k : Nat) (n : Int), 0 ≤ n → n < 10 ^ (k + 1) → 10 ≤ n → ∃ (d : Int) (r : List UInt8), decT k n = UInt8.ofNat (48 + d).toNat :: r ∧ 1 ≤ d ∧ d < 10
  | 0, n, _, h1, h2 => absurd (by simpa using h1) (show ¬ n < 10 by omega)
  | k + 1, n, h0, h1, h2 => by
    simp only [decT]
    rw [if_neg (by omega)]
    by_cases h3 : n / 10 < 10
    · have e : decT k (n / 10) = [UInt8.ofNat (48 + n / 10 % 10).toNat] := by
        cases k with
        | zero => rfl
        | succ k => simp only [decT]; rw [if_pos h3]
      rw [e]
      exact ⟨n / 10 % 10, _, rfl, by omega, by omega⟩
    · obtain ⟨d, r, e, h4, h5⟩ := decT_h k (n / 10) (by omega) (by
        have : (10 : Int) ^ (k + 1 + 1) = 10 ^ (k + 1) * 10 := Int.pow_succ ..
        omega) (by omega)
      rw [e]
      exact ⟨d, _, rfl, h4, h5⟩
/-- What the reference reads: a number of at most ten digits, and with a sign. -/
def numR (s : List UInt8) : Option Int := if s = [] ∨ 10 < s.length ∨ (s[0]? = some 48 ∧ 1 < s.length) then none else digR 0 s
def sgnR : List UInt8 → Option Int
  | 45 :: r => (numR r).bind fun n => if 0 < n then some (-n) else none
  | s => numR s
theorem decT_ne (k : Nat) (n : Int) : decT k n ≠ [] := by
  cases k with
  | zero => simp [decT]
  | succ k =>
    simp only [decT]
    split <;> simp
theorem numR_dcl {n : Int} (h0 : 0 ≤ n) (h1 : n < 10000000000) : numR (dcl n) = some n := by
  have h2 : n < 10 ^ (18 + 1) := by
    have : (10 : Int) ^ (18 + 1) = 10000000000000000000 := by decide
    omega
  have hl := decT_10 18 n 10 h0 (by have : (10 : Int) ^ 10 = 10000000000 := by decide
                                    omega) (by omega)
  unfold numR dcl
  rw [if_neg, digR_decT 18 n h0 h2]
  rintro (h | h | ⟨h, h3⟩)
  · exact decT_ne _ _ h
  · omega
  · by_cases h4 : n < 10
    · have : decT 18 n = [UInt8.ofNat (48 + n % 10).toNat] := by simp only [decT]; rw [if_pos h4]
      rw [this] at h3
      simp at h3
    · obtain ⟨d, r, e, h5, h6⟩ := decT_h 18 n h0 h2 (by omega)
      rw [e] at h
      simp only [List.getElem?_cons_zero, Option.some.injEq] at h
      have e2 := dig_b (d := d) (by omega) h6
      rw [h] at e2
      simp at e2
      omega
theorem numR_pos {s : List UInt8} {n : Int} (h : numR s = some n) : s.head? ≠ some 45 := by
  intro hh
  match s, hh with
  | x :: r, hh =>
    simp only [List.head?_cons, Option.some.injEq] at hh
    subst hh
    unfold numR at h
    split at h
    · simp at h
    · simp [digR] at h
theorem sgnR_num {s : List UInt8} (h : s.head? ≠ some 45) : sgnR s = numR s := by
  unfold sgnR
  split
  · simp at h
  · rfl
theorem sgnR_sgT {n : Int} (h0 : -10000000000 < n) (h1 : n < 10000000000) : sgnR (sgT n) = some n := by
  unfold sgT
  split
  · rename_i h
    simp only [sgnR]
    rw [numR_dcl (by omega) (by omega)]
    simp only [Option.bind_some]
    rw [if_pos (by omega)]
    congr 1
    omega
  · rename_i h
    have := numR_dcl (n := n) (by omega) (by omega)
    rw [sgnR_num (numR_pos this)]
    exact this
/-- What bytes a number's text has. -/
def dgB (x : UInt8) : Prop := 48 ≤ x.toNat ∧ x.toNat ≤ 57
theorem decT_b : ∀ (k : Nat) (n : Int), 0 ≤ n → n < 10 ^ (k + 1) → ∀ x ∈ decT k n, dgB x
  | 0, n, h0, h1 => by
    have e := dig_b (d := n % 10) (by omega) (by omega)
    intro x hx
    simp only [decT, List.mem_singleton] at hx
    subst hx
    unfold dgB
    omega
  | k + 1, n, h0, h1 => by
    have e := dig_b (d := n % 10) (by omega) (by omega)
    intro x hx
    simp only [decT] at hx
    split at hx
    · rw [List.mem_singleton] at hx
      subst hx
      unfold dgB
      omega
    · rcases List.mem_append.1 hx with hx | hx
      · exact decT_b k (n / 10) (by omega) (by
          have : (10 : Int) ^ (k + 1 + 1) = 10 ^ (k + 1) * 10 := Int.pow_succ ..
          omega) x hx
      · rw [List.mem_singleton] at hx
        subst hx
        unfold dgB
        omega
theorem dcl_b {n : Int} (h0 : 0 ≤ n) (h1 : n ≤ 9223372036854775807) : ∀ x ∈ dcl n, dgB x := decT_b 18 n h0 (by
  have : (10 : Int) ^ (18 + 1) = 10000000000000000000 := by decide
  omega)
theorem sgT_b {n : Int} (h0 : -9223372036854775807 ≤ n) (h1 : n ≤ 9223372036854775807) : ∀ x ∈ sgT n, dgB x ∨ x = 45 := by
  unfold sgT
  split
  · intro x hx
    rcases List.mem_cons.1 hx with hx | hx
    · exact .inr hx
    · exact .inl (dcl_b (by omega) (by omega) x hx)
  · exact fun x hx => .inl (dcl_b (by omega) (by omega) x hx)
/-- The i-th word. -/
def wR (W : List (List UInt8)) (i : Nat) : List UInt8 := (W[i]?).getD []
end Go.Proofs.YtamachahlhlhlaaGreatDoor.Eng
set_option linter.unusedVariables false
set_option linter.unusedSimpArgs false
namespace Go.Proofs.YtamachahlhlhlaaGreatDoor.Eng
open Go Go.RowKit
set_option maxRecDepth 100000
/-- What a row's cells are in the machine. -/
theorem HRel.listCells {w0 w : World} {ι : Ren} {H : Heap} (h : HRel w0 ι H w) {id : Nat} {L : Loc} {b : Blk} (hi : ι id = some L) (hb : H[id]? = some (some b)) (hfl : b.fl = true) :
    L.blk < w.heap.size ∧ ∀ (j : Nat) (v : Value), b.cells[j]? = some v → w.cell? ⟨L.blk, L.off + j, none⟩ = some v := by
  obtain ⟨c, e, fr, q1, q2, q3, q4, q5, q6⟩ := h.blk id L b hi hb
  refine ⟨h.lt hi hb, fun j v hv => ?_⟩
  obtain ⟨v', r1, r2⟩ := q5 j v hv
  have hf := h.flat id b hb hfl v (List.mem_of_getElem? hv)
  have := r2.flat_eq hf
  subst this
  rw [World.cell?]
  simp [q1, r1]
  done
/-- A call of a list and flat values that leaves what was. -/
theorem Runs_list {f : FuncId} {H : Heap} {id n c : Nat} {b : Blk} {more : List Value} {v : Value} (hb : getB H id = some b) (hn : 0 < n) (hfl : b.fl = true)
    (hen : Enters Tryz.prog f) (hmore : ∀ {ι : Ren} {ys : List Value}, LRel ι more ys → ys = more) (hv : flatV v = true)
    (hcon : ∀ (w : World) (blk off cap : Nat), Lib.TabIs Tryz.prog w "internal/strconv.uint64pow10" .u64 Lib.pow10Tab → (∀ (j : Nat) (v : Value), b.cells[j]? = some v → w.cell? ⟨blk, off + j, none⟩ = some v) → blk < w.heap.size → n ≤ cap →
      Calls Tryz.prog f ⟨.slice (some ⟨blk, off, none⟩) n cap :: more⟩ w fun e w' => e = .returned v ∧ Below w.heap.size w w') :
    Runs Tryz.prog f (.slice (some ⟨id, 0, none⟩) n c :: more) H (fun u G => u = v ∧ G = H) := by
  refine ⟨hen, fun w0 ι w args' h2 h3 => ?_⟩
  obtain ⟨v', ys, rfl, hv', hys⟩ := h3.inv_cons
  have := hmore hys
  subst this
  cases hv' with
  | sl _ _ _ _ L a' c' hi hn' hz hl' hx ha =>
    have hcne : c' ≠ 0 := by omega
    have ha := ha.resolve_right hcne
    subst ha
    rw [Nat.add_zero]
    obtain ⟨hlt, hcell⟩ := h2.listCells hi (getB_eq.1 hb) hfl
    refine (hcon w L.blk L.off c' h2.tab hcell hlt hn').mono fun e w' ⟨he, hb⟩ => ?_
    exact ⟨_, _, _, ι, he, ⟨rfl, rfl⟩, .flat hv, h2.after hb, .refl _ _, OCs.refl _ _, Nat.le_refl _⟩
theorem fm_str : ∀ (l : List (List UInt8)), (l.flatMap (ET.enc .str)) = l.map SV.str
  | [] => rfl
  | a :: l => by rw [List.flatMap_cons, fm_str l]; rfl
def s_join : Spec := fun args S => match args, S with
  | [.sl 0 0 n x, .str sep], [.arr .str l 1 true] => ⟨n = l.length ∧ (1 ≤ n ∧ n ≤ 1000000) ∧ (Lib.join l sep).length ≤ 140737488355328, .str (Lib.join l sep), [.arr .str l 1 true]⟩
  | _, _ => noSpec
theorem ok_join : SpecOk Tryz.prog 109 s_join := by
  intro args S h; unfold s_join at h ⊢; (split at h <;> first | exact False.elim h | skip)
  dsimp only at h ⊢
  rename_i n x sep l
  obtain ⟨rfl, ⟨h1, h2⟩, h3⟩ := h
  intro H ρ args' hD hd ha
  obtain ⟨v1, r1, rfl, k1, ha⟩ := ha.inv_cons
  obtain ⟨v2, r2, rfl, k2, ha⟩ := ha.inv_cons
  rw [ha.inv_nil]
  have hv2 : v2 = .string ⟨⟨sep⟩⟩ := by cases k2; rfl
  obtain ⟨id, w, kb, q1, q2, q3⟩ := hD.blk 0 _ rfl rfl
  obtain ⟨rfl, e2, e3, e4, e5⟩ := q3
  have hv1 : v1 = .slice (some ⟨id, 0, none⟩) l.length (l.length + x + 1) := by
    cases k1 with | sl _ _ _ _ id' w' hb' => rw [q1] at hb'; obtain ⟨rfl, rfl⟩ := Prod.mk.inj (Option.some.inj hb'); simp
  have hc : kb.cells = (l.flatMap (ET.enc .str)).map toV := LDR.fun2 e5 (map_toV (flat_all _) ρ)
  have hxs : ((l.map fun s => (⟨⟨s⟩⟩ : ByteArray)).map (·.data.toList)) = l := by
    rw [List.map_map]
    show List.map (fun s => s) l = l
    exact List.map_id' l
  have hfm := fm_str l
  have hrun := Runs_list (f := 109) (H := H) (id := id) (n := l.length) (c := l.length + x + 1) (b := kb) (more := [.string ⟨⟨sep⟩⟩]) (v := .string ⟨(Lib.join l sep).toArray⟩) q2 (by omega) e4 ⟨Tryz.f109, rfl, rfl, rfl⟩
    (fun hy => hy.flat_eq fun v hv => by simp at hv; subst hv; rfl) rfl ?_
  · rw [hv1, hv2]
    exact ⟨_, _, ρ, hrun, .str _, .refl hD hd⟩
  · intro W blk off cap ht hcell hlt hcap
    have := sh_strings_Join blk off cap (l.map fun s => (⟨⟨s⟩⟩ : ByteArray)) ⟨⟨sep⟩⟩ W (fun j y hy => by
      refine hcell j _ ?_
      rw [hc]
      rw [hfm, List.map_map, List.getElem?_map]
      rw [List.getElem?_map] at hy
      cases e : l[j]? with
      | none => rw [e] at hy; simp at hy
      | some s =>
        rw [e] at hy
        simp only [Option.map_some, Option.some.injEq] at hy
        rw [← hy]
        rfl) hlt (by simp; omega) (by simpa using hcap) (by rw [hxs]; exact h3)
    rw [hxs, List.length_map] at this
    exact this
end Go.Proofs.YtamachahlhlhlaaGreatDoor.Eng
set_option linter.unusedVariables false
set_option linter.unusedSimpArgs false
namespace Go.Proofs.YtamachahlhlhlaaGreatDoor.Eng
open Go Go.RowKit
set_option maxRecDepth 100000
def s_eqFrac : Spec := fun args S => match args, S with
  | [.agg [.int .i64 p, .int .i64 q], .agg [.int .i64 p', .int .i64 q']], [] => ⟨True, .bool (decide (p = p' ∧ q = q')), []⟩
  | _, _ => noSpec
theorem ok_eqFrac : SpecOk Tryz.prog 181 s_eqFrac := by
  intro args S h; unfold s_eqFrac at h ⊢; (split at h <;> first | exact False.elim h | skip)
  dsimp only at h ⊢
  refine funW tabOk (E := []) trivial [] (k := 0) (fn := Tryz.f181) rfl rfl rfl rfl rfl rfl ?_
  (repeat' ((try (conv => whnf)); first | (with_reducible first | refine And.intro ?_ ?_ | refine WX.of ?_) | exact zc | ((with_reducible refine VC.mk ?_); exact zw) | (with_reducible first | refine splitT ?_ | refine splitF ?_) | ((with_reducible refine splitM.mk (fun hsm => ?_) (fun hsm => ?_)) <;> (try exact zx)) | ((with_reducible refine splitB.mk (fun h => ?_) (fun h => ?_)) <;> (try simp only [zs, ne_eq] at h) <;> (try simp (disch := omega) only [w64] at h) <;> (try exact zx)) | (with_reducible intro hz; (try exact absurd hz (Nat.succ_ne_zero _)))))
  all_goals (refine ⟨congrArg SV.bool ?_⟩; (try dsimp only); (try simp (disch := omega) only [w64]); rw [Bool.eq_iff_iff]; try (simp []); try omega)
def s_nfOk : Spec := fun args S => match args, S with
  | [.agg [.int .i64 p, .int .i64 q]], [] => ⟨True, .bool (!fOk p q), []⟩
  | _, _ => noSpec
theorem ok_areValid1 : SpecOk Tryz.prog 194 s_nfOk := by
  intro args S h; unfold s_nfOk at h ⊢; (split at h <;> first | exact False.elim h | skip)
  dsimp only at h ⊢
  refine funW tabOk (E := [(96, s_fOk)]) ⟨ok_ValidFrac, trivial⟩ [] (k := 0) (fn := Tryz.f194) rfl rfl rfl rfl rfl rfl ?_
  (repeat' ((try (conv => whnf)); first | (with_reducible first | refine And.intro ?_ ?_ | refine WX.of ?_) | exact zc | ((with_reducible refine VC.mk ?_); exact zw) | (with_reducible first | refine splitT ?_ | refine splitF ?_) | ((with_reducible refine splitM.mk (fun hsm => ?_) (fun hsm => ?_)) <;> (try exact zx)) | ((with_reducible refine splitB.mk (fun h => ?_) (fun h => ?_)) <;> (try simp only [zs, ne_eq] at h) <;> (try simp (disch := omega) only [w64] at h) <;> (try exact zx)) | (with_reducible intro hz; (try exact absurd hz (Nat.succ_ne_zero _)))))
def nfOk (a : Int × Int) : Bool := !fOk a.1 a.2
def s_idxF (g : Nat) : Spec := fun args S => match args, S with
  | [.sl 0 s n x, .fn g' []], [.arr (.prod (.int .i64) (.int .i64)) l 2 wr] => ⟨g' = g ∧ s + n ≤ l.length ∧ n ≤ 4611686018427387904, .int .i64 (findI nfOk (seg l s n)), [.arr (.prod (.int .i64) (.int .i64)) l 2 wr]⟩
  | _, _ => noSpec
theorem ok_idxF : SpecOk Tryz.prog 264 (s_idxF 194) := by
  intro args S h; unfold s_idxF at h ⊢; (split at h <;> first | exact False.elim h | skip)
  dsimp only at h ⊢
  rename_i s n x g l wr
  obtain ⟨rfl, h1, h2⟩ := h
  have hL := seg_len h1
  refine funW tabOk (E := [(194, s_nfOk)]) ⟨ok_areValid1, trivial⟩ [] (k := 1) (fn := Tryz.f264) rfl rfl rfl rfl rfl rfl ?_
  (repeat' ((try (conv => whnf)); first | (with_reducible first | refine And.intro ?_ ?_ | refine WX.of ?_) | exact zc | ((with_reducible refine VC.mk ?_); exact zw) | (with_reducible first | refine splitT ?_ | refine splitF ?_) | ((with_reducible refine splitM.mk (fun hsm => ?_) (fun hsm => ?_)) <;> (try exact zx)) | ((with_reducible refine splitB.mk (fun h => ?_) (fun h => ?_)) <;> (try simp only [zs, ne_eq] at h) <;> (try simp (disch := omega) only [w64] at h) <;> (try exact zx)) | (with_reducible intro hz; (try exact absurd hz (Nat.succ_ne_zero _)))))
  refine loopW tabOk (E := [(194, s_nfOk)]) ⟨ok_areValid1, trivial⟩ [] (σ := Nat) (fun i => [(0, .sl 0 s n x), (1, .fn 194 []), (7, .int .i64 n), (8, .int .i64 i)]) (fun i => [.arr (.prod (.int .i64) (.int .i64)) l 2 wr]) (fun i => n - i) (fun i => i ≤ n ∧ ∀ (j : Nat) a, j < i → (seg l s n)[j]? = some a → nfOk a = false) 0 ⟨Nat.zero_le _, fun j a hj => by omega⟩ ?_ ?_
  · (repeat' ((try (conv => whnf)); first | (with_reducible first | refine And.intro ?_ ?_ | refine WX.of ?_) | exact zc | ((with_reducible refine VC.mk ?_); exact zw) | (with_reducible first | refine splitT ?_ | refine splitF ?_) | ((with_reducible refine splitM.mk (fun hsm => ?_) (fun hsm => ?_)) <;> (try exact zx)) | ((with_reducible refine splitB.mk (fun h => ?_) (fun h => ?_)) <;> (try simp only [zs, ne_eq] at h) <;> (try simp (disch := omega) only [w64] at h) <;> (try exact zx)) | (with_reducible intro hz; (try exact absurd hz (Nat.succ_ne_zero _)))))
  · intro i ⟨hi, hp⟩
    by_cases hlt : i < n
    · obtain ⟨a, ha⟩ := get_some (l := seg l s n) (i := i) (by omega)
      (repeat' ((try (conv => whnf)); first | (with_reducible first | refine And.intro ?_ ?_ | refine WX.of ?_) | exact zc | ((with_reducible refine VC.mk ?_); exact zw) | refine atL_i ha ?_ | (with_reducible first | refine splitT ?_ | refine splitF ?_) | ((with_reducible refine splitM.mk (fun hsm => ?_) (fun hsm => ?_)) <;> (try exact zx)) | ((with_reducible refine splitB.mk (fun h => ?_) (fun h => ?_)) <;> (try simp only [zs, ne_eq] at h) <;> (try simp (disch := omega) only [w64] at h) <;> (try exact zx)) | (with_reducible intro hz; (try exact absurd hz (Nat.succ_ne_zero _)))))
      · exact ⟨by rw [findI_some ha (by simpa [nfOk] using h) hp]⟩
      · refine ⟨i + 1, by omega, ⟨hlt, upto_step ha (by simpa [nfOk] using h) hp⟩, ?_⟩
        (repeat' ((try (conv => whnf)); first | (with_reducible first | refine And.intro ?_ ?_ | refine WX.of ?_) | exact zc | ((with_reducible refine VC.mk ?_); exact zw) | (with_reducible first | refine splitT ?_ | refine splitF ?_) | ((with_reducible refine splitM.mk (fun hsm => ?_) (fun hsm => ?_)) <;> (try exact zx)) | ((with_reducible refine splitB.mk (fun h => ?_) (fun h => ?_)) <;> (try simp only [zs, ne_eq] at h) <;> (try simp (disch := omega) only [w64] at h) <;> (try exact zx)) | (with_reducible intro hz; (try exact absurd hz (Nat.succ_ne_zero _)))))
    · (repeat' ((try (conv => whnf)); first | (with_reducible first | refine And.intro ?_ ?_ | refine WX.of ?_) | exact zc | ((with_reducible refine VC.mk ?_); exact zw) | (with_reducible first | refine splitT ?_ | refine splitF ?_) | ((with_reducible refine splitM.mk (fun hsm => ?_) (fun hsm => ?_)) <;> (try exact zx)) | ((with_reducible refine splitB.mk (fun h => ?_) (fun h => ?_)) <;> (try simp only [zs, ne_eq] at h) <;> (try simp (disch := omega) only [w64] at h) <;> (try exact zx)) | (with_reducible intro hz; (try exact absurd hz (Nat.succ_ne_zero _)))))
      exact ⟨by rw [findI_none fun j a hj => hp j a (by have := (List.getElem?_eq_some_iff.1 hj).1; omega) hj]⟩
def s_anyF (g : Nat) : Spec := fun args S => match args, S with
  | [.sl 0 s n x, .fn g' []], [.arr (.prod (.int .i64) (.int .i64)) l 2 wr] => ⟨g' = g ∧ s + n ≤ l.length ∧ n ≤ 4611686018427387904, .bool ((seg l s n).any nfOk), [.arr (.prod (.int .i64) (.int .i64)) l 2 wr]⟩
  | _, _ => noSpec
theorem ok_anyF : SpecOk Tryz.prog 193 (s_anyF 194) := by
  intro args S h; unfold s_anyF at h ⊢; (split at h <;> first | exact False.elim h | skip)
  dsimp only at h ⊢
  rename_i s n x g l wr
  obtain ⟨rfl, h1, h2⟩ := h
  refine funW tabOk (E := [(264, (s_idxF 194))]) ⟨ok_idxF, trivial⟩ [] (k := 1) (fn := Tryz.f193) rfl rfl rfl rfl rfl rfl ?_
  (repeat' ((try (conv => whnf)); first | (with_reducible first | refine And.intro ?_ ?_ | refine WX.of ?_) | exact zc | ((with_reducible refine VC.mk ?_); exact zw) | (with_reducible first | refine splitT ?_ | refine splitF ?_) | ((with_reducible refine splitM.mk (fun hsm => ?_) (fun hsm => ?_)) <;> (try exact zx)) | ((with_reducible refine splitB.mk (fun h => ?_) (fun h => ?_)) <;> (try simp only [zs, ne_eq] at h) <;> (try simp (disch := omega) only [w64] at h) <;> (try exact zx)) | (with_reducible intro hz; (try exact absurd hz (Nat.succ_ne_zero _)))))
  exact ⟨by rw [findI_any]⟩
/-- Valid fractions. -/
def allF (L : List (Int × Int)) : Bool := L.all fun a => fOk a.1 a.2
def s_allF : Spec := fun args S => match args, S with
  | [.sl 0 s n x], [.arr (.prod (.int .i64) (.int .i64)) l 2 wr] => ⟨s + n ≤ l.length ∧ n ≤ 4611686018427387904, .bool (allF (seg l s n)), [.arr (.prod (.int .i64) (.int .i64)) l 2 wr]⟩
  | _, _ => noSpec
theorem ok_areValid : SpecOk Tryz.prog 81 s_allF := by
  intro args S h; unfold s_allF at h ⊢; (split at h <;> first | exact False.elim h | skip)
  dsimp only at h ⊢
  refine funW tabOk (E := [(193, (s_anyF 194))]) ⟨ok_anyF, trivial⟩ [] (k := 1) (fn := Tryz.f81) rfl rfl rfl rfl rfl rfl ?_
  (repeat' ((try (conv => whnf)); first | (with_reducible first | refine And.intro ?_ ?_ | refine WX.of ?_) | exact zc | ((with_reducible refine VC.mk ?_); exact zw) | (with_reducible first | refine splitT ?_ | refine splitF ?_) | ((with_reducible refine splitM.mk (fun hsm => ?_) (fun hsm => ?_)) <;> (try exact zx)) | ((with_reducible refine splitB.mk (fun h => ?_) (fun h => ?_)) <;> (try simp only [zs, ne_eq] at h) <;> (try simp (disch := omega) only [w64] at h) <;> (try exact zx)) | (with_reducible intro hz; (try exact absurd hz (Nat.succ_ne_zero _)))))
  all_goals (refine ⟨?_⟩; unfold allF; rw [List.all_eq_not_any_not]; rfl)
/-- A name of 1 to 12 letters. -/
def letB (c : UInt8) : Bool := decide (97 ≤ c.toNat ∧ c.toNat ≤ 122)
def wordB (s : List UInt8) : Bool := decide (1 ≤ s.length ∧ s.length ≤ 12) && s.all letB
def s_word : Spec := fun args S => match args, S with
  | [.str s], [] => ⟨s.length ≤ 9223372036854775807, .bool (wordB s), []⟩
  | _, _ => noSpec
theorem word_no {s : List UInt8} {i : Nat} {c : UInt8} (h : s[i]? = some c) (hc : letB c = false) : wordB s = false := by
  unfold wordB
  have : s.all letB = false := by
    rw [List.all_eq_false]
    exact ⟨c, List.mem_of_getElem? h, by simp [hc]⟩
  rw [this]; simp
theorem word_all {s : List UInt8} (h : ∀ (j : Nat) c, s[j]? = some c → letB c = true) : s.all letB = true := by
  rw [List.all_eq_true]
  intro c hc
  obtain ⟨j, hj⟩ := List.getElem?_of_mem hc
  exact h j c hj
theorem ok_isWord : SpecOk Tryz.prog 92 s_word := by
  intro args S h; unfold s_word at h ⊢; (split at h <;> first | exact False.elim h | skip)
  dsimp only at h ⊢
  rename_i s
  refine funW tabOk (E := [(106, s_within)]) ⟨ok_within, trivial⟩ [] (k := 0) (fn := Tryz.f92) rfl rfl rfl rfl rfl rfl ?_
  (repeat' ((try (conv => whnf)); first | (with_reducible first | refine And.intro ?_ ?_ | refine WX.of ?_) | exact zc | ((with_reducible refine VC.mk ?_); exact zw) | (with_reducible first | refine splitT ?_ | refine splitF ?_) | ((with_reducible refine splitM.mk (fun hsm => ?_) (fun hsm => ?_)) <;> (try exact zx)) | ((with_reducible refine splitB.mk (fun h => ?_) (fun h => ?_)) <;> (try simp only [zs, ne_eq] at h) <;> (try simp (disch := omega) only [w64] at h) <;> (try exact zx)) | (with_reducible intro hz; (try exact absurd hz (Nat.succ_ne_zero _)))))
  refine loopW tabOk (E := [(106, s_within)]) ⟨ok_within, trivial⟩ [] (σ := Nat) (fun i => [(0, .str s), (5, .int .i64 s.length), (6, .int .i64 i)]) (fun i => []) (fun i => s.length - i) (fun i => i ≤ s.length ∧ ∀ (j : Nat) c, j < i → s[j]? = some c → letB c = true) 0 ⟨Nat.zero_le _, fun j a hj => by omega⟩ ?_ ?_
  · (repeat' ((try (conv => whnf)); first | (with_reducible first | refine And.intro ?_ ?_ | refine WX.of ?_) | exact zc | ((with_reducible refine VC.mk ?_); exact zw) | (with_reducible first | refine splitT ?_ | refine splitF ?_) | ((with_reducible refine splitM.mk (fun hsm => ?_) (fun hsm => ?_)) <;> (try exact zx)) | ((with_reducible refine splitB.mk (fun h => ?_) (fun h => ?_)) <;> (try simp only [zs, ne_eq] at h) <;> (try simp (disch := omega) only [w64] at h) <;> (try exact zx)) | (with_reducible intro hz; (try exact absurd hz (Nat.succ_ne_zero _)))))
  · intro i ⟨hi, hp⟩
    by_cases hlt : i < s.length
    · obtain ⟨c, hc⟩ := get_some (l := s) (i := i) (by omega)
      (repeat' ((try (conv => whnf)); first | (with_reducible first | refine And.intro ?_ ?_ | refine WX.of ?_) | exact zc | ((with_reducible refine VC.mk ?_); exact zw) | refine atL_n hc ?_ | (with_reducible first | refine splitT ?_ | refine splitF ?_) | ((with_reducible refine splitM.mk (fun hsm => ?_) (fun hsm => ?_)) <;> (try exact zx)) | ((with_reducible refine splitB.mk (fun h => ?_) (fun h => ?_)) <;> (try simp only [zs, ne_eq] at h) <;> (try simp (disch := omega) only [w64] at h) <;> (try exact zx)) | (with_reducible intro hz; (try exact absurd hz (Nat.succ_ne_zero _)))))
      · exact ⟨by rw [word_no hc (by unfold letB; rw [decide_eq_false]; omega)]⟩
      · exact ⟨by rw [word_no hc (by unfold letB; rw [decide_eq_false]; omega)]⟩
      · refine ⟨i + 1, by omega, ⟨hlt, upto_step hc (by unfold letB; rw [decide_eq_true]; omega) hp⟩, ?_⟩
        (repeat' ((try (conv => whnf)); first | (with_reducible first | refine And.intro ?_ ?_ | refine WX.of ?_) | exact zc | ((with_reducible refine VC.mk ?_); exact zw) | (with_reducible first | refine splitT ?_ | refine splitF ?_) | ((with_reducible refine splitM.mk (fun hsm => ?_) (fun hsm => ?_)) <;> (try exact zx)) | ((with_reducible refine splitB.mk (fun h => ?_) (fun h => ?_)) <;> (try simp only [zs, ne_eq] at h) <;> (try simp (disch := omega) only [w64] at h) <;> (try exact zx)) | (with_reducible intro hz; (try exact absurd hz (Nat.succ_ne_zero _)))))
    · (repeat' ((try (conv => whnf)); first | (with_reducible first | refine And.intro ?_ ?_ | refine WX.of ?_) | exact zc | ((with_reducible refine VC.mk ?_); exact zw) | (with_reducible first | refine splitT ?_ | refine splitF ?_) | ((with_reducible refine splitM.mk (fun hsm => ?_) (fun hsm => ?_)) <;> (try exact zx)) | ((with_reducible refine splitB.mk (fun h => ?_) (fun h => ?_)) <;> (try simp only [zs, ne_eq] at h) <;> (try simp (disch := omega) only [w64] at h) <;> (try exact zx)) | (with_reducible intro hz; (try exact absurd hz (Nat.succ_ne_zero _)))))
      have ha := word_all fun j c hj => hp j c (by have := (List.getElem?_eq_some_iff.1 hj).1; omega) hj
      refine ⟨congrArg SV.bool ?_⟩
      unfold wordB; rw [ha, Bool.and_true, decide_eq_decide]; omega
theorem ok_l05Name : SpecOk Tryz.prog 196 s_word := by
  intro args S h; unfold s_word at h ⊢; (split at h <;> first | exact False.elim h | skip)
  dsimp only at h ⊢
  rename_i s
  refine funW tabOk (E := []) trivial [] (k := 0) (fn := Tryz.f196) rfl rfl rfl rfl rfl rfl ?_
  (repeat' ((try (conv => whnf)); first | (with_reducible first | refine And.intro ?_ ?_ | refine WX.of ?_) | exact zc | ((with_reducible refine VC.mk ?_); exact zw) | (with_reducible first | refine splitT ?_ | refine splitF ?_) | ((with_reducible refine splitM.mk (fun hsm => ?_) (fun hsm => ?_)) <;> (try exact zx)) | ((with_reducible refine splitB.mk (fun h => ?_) (fun h => ?_)) <;> (try simp only [zs, ne_eq] at h) <;> (try simp (disch := omega) only [w64] at h) <;> (try exact zx)) | (with_reducible intro hz; (try exact absurd hz (Nat.succ_ne_zero _)))))
  · refine ⟨congrArg SV.bool ?_⟩; unfold wordB; rw [decide_eq_false (by omega)]; rfl
  · refine ⟨congrArg SV.bool ?_⟩; unfold wordB; rw [decide_eq_false (by omega)]; rfl
  · refine loopW tabOk (E := []) trivial [] (σ := Nat) (fun i => [(0, .str s), (3, .int .i64 i)]) (fun i => []) (fun i => s.length - i) (fun i => i ≤ s.length ∧ ∀ (j : Nat) c, j < i → s[j]? = some c → letB c = true) 0 ⟨Nat.zero_le _, fun j a hj => by omega⟩ ?_ ?_
    · (repeat' ((try (conv => whnf)); first | (with_reducible first | refine And.intro ?_ ?_ | refine WX.of ?_) | exact zc | ((with_reducible refine VC.mk ?_); exact zw) | (with_reducible first | refine splitT ?_ | refine splitF ?_) | ((with_reducible refine splitM.mk (fun hsm => ?_) (fun hsm => ?_)) <;> (try exact zx)) | ((with_reducible refine splitB.mk (fun h => ?_) (fun h => ?_)) <;> (try simp only [zs, ne_eq] at h) <;> (try simp (disch := omega) only [w64] at h) <;> (try exact zx)) | (with_reducible intro hz; (try exact absurd hz (Nat.succ_ne_zero _)))))
    · intro i ⟨hi, hp⟩
      by_cases hlt : i < s.length
      · obtain ⟨c, hc⟩ := get_some (l := s) (i := i) (by omega)
        (repeat' ((try (conv => whnf)); first | (with_reducible first | refine And.intro ?_ ?_ | refine WX.of ?_) | exact zc | ((with_reducible refine VC.mk ?_); exact zw) | refine atL_n hc ?_ | (with_reducible first | refine splitT ?_ | refine splitF ?_) | ((with_reducible refine splitM.mk (fun hsm => ?_) (fun hsm => ?_)) <;> (try exact zx)) | ((with_reducible refine splitB.mk (fun h => ?_) (fun h => ?_)) <;> (try simp only [zs, ne_eq] at h) <;> (try simp (disch := omega) only [w64] at h) <;> (try exact zx)) | (with_reducible intro hz; (try exact absurd hz (Nat.succ_ne_zero _)))))
        · exact ⟨by rw [word_no hc (by unfold letB; rw [decide_eq_false]; omega)]⟩
        · exact ⟨by rw [word_no hc (by unfold letB; rw [decide_eq_false]; omega)]⟩
        · refine ⟨i + 1, by omega, ⟨hlt, upto_step hc (by unfold letB; rw [decide_eq_true]; omega) hp⟩, ?_⟩
          (repeat' ((try (conv => whnf)); first | (with_reducible first | refine And.intro ?_ ?_ | refine WX.of ?_) | exact zc | ((with_reducible refine VC.mk ?_); exact zw) | (with_reducible first | refine splitT ?_ | refine splitF ?_) | ((with_reducible refine splitM.mk (fun hsm => ?_) (fun hsm => ?_)) <;> (try exact zx)) | ((with_reducible refine splitB.mk (fun h => ?_) (fun h => ?_)) <;> (try simp only [zs, ne_eq] at h) <;> (try simp (disch := omega) only [w64] at h) <;> (try exact zx)) | (with_reducible intro hz; (try exact absurd hz (Nat.succ_ne_zero _)))))
      · (repeat' ((try (conv => whnf)); first | (with_reducible first | refine And.intro ?_ ?_ | refine WX.of ?_) | exact zc | ((with_reducible refine VC.mk ?_); exact zw) | (with_reducible first | refine splitT ?_ | refine splitF ?_) | ((with_reducible refine splitM.mk (fun hsm => ?_) (fun hsm => ?_)) <;> (try exact zx)) | ((with_reducible refine splitB.mk (fun h => ?_) (fun h => ?_)) <;> (try simp only [zs, ne_eq] at h) <;> (try simp (disch := omega) only [w64] at h) <;> (try exact zx)) | (with_reducible intro hz; (try exact absurd hz (Nat.succ_ne_zero _)))))
        have ha := word_all fun j c hj => hp j c (by have := (List.getElem?_eq_some_iff.1 hj).1; omega) hj
        refine ⟨congrArg SV.bool ?_⟩
        unfold wordB; rw [ha, Bool.and_true, decide_eq_true (by omega)]
/-- Comparing. -/
def cmpF (p q p' q' : Int) : Int := if p * q' < p' * q then -1 else if p * q' > p' * q then 1 else 0
def s_cmp : Spec := fun args S => match args, S with
  | [.agg [.int .i64 p, .int .i64 q], .agg [.int .i64 p', .int .i64 q']], [] => ⟨smF p q ∧ smF p' q', .int .i64 (cmpF p q p' q'), []⟩
  | _, _ => noSpec
theorem ok_compare : SpecOk Tryz.prog 97 s_cmp := by
  intro args S h; unfold s_cmp at h ⊢; (split at h <;> first | exact False.elim h | skip)
  dsimp only at h ⊢
  rename_i p q p' q'
  have hm := smF_mul h.1 h.2
  have hm' := smF_mul h.2 h.1
  refine funW tabOk (E := []) trivial [] (k := 0) (fn := Tryz.f97) rfl rfl rfl rfl rfl rfl ?_
  (repeat' ((try (conv => whnf)); first | (with_reducible first | refine And.intro ?_ ?_ | refine WX.of ?_) | exact zc | ((with_reducible refine VC.mk ?_); exact zw) | (with_reducible first | refine splitT ?_ | refine splitF ?_) | ((with_reducible refine splitM.mk (fun hsm => ?_) (fun hsm => ?_)) <;> (try exact zx)) | ((with_reducible refine splitB.mk (fun h => ?_) (fun h => ?_)) <;> (try simp only [zs, ne_eq] at h) <;> (try simp (disch := omega) only [w64] at h) <;> (try exact zx)) | (with_reducible intro hz; (try exact absurd hz (Nat.succ_ne_zero _)))))
  all_goals (refine ⟨?_⟩; unfold cmpF; first | (rw [if_pos (by omega)]; done) | (rw [if_neg (by omega), if_pos (by omega)]; done) | (rw [if_neg (by omega), if_neg (by omega)]))
theorem ok_l01Cmp : SpecOk Tryz.prog 230 s_cmp := by
  intro args S h; unfold s_cmp at h ⊢; (split at h <;> first | exact False.elim h | skip)
  dsimp only at h ⊢
  rename_i p q p' q'
  have hm := smF_mul h.1 h.2
  have hm' := smF_mul h.2 h.1
  refine funW tabOk (E := []) trivial [] (k := 0) (fn := Tryz.f230) rfl rfl rfl rfl rfl rfl ?_
  (repeat' ((try (conv => whnf)); first | (with_reducible first | refine And.intro ?_ ?_ | refine WX.of ?_) | exact zc | ((with_reducible refine VC.mk ?_); exact zw) | (with_reducible first | refine splitT ?_ | refine splitF ?_) | ((with_reducible refine splitM.mk (fun hsm => ?_) (fun hsm => ?_)) <;> (try exact zx)) | ((with_reducible refine splitB.mk (fun h => ?_) (fun h => ?_)) <;> (try simp only [zs, ne_eq] at h) <;> (try simp (disch := omega) only [w64] at h) <;> (try exact zx)) | (with_reducible intro hz; (try exact absurd hz (Nat.succ_ne_zero _)))))
  all_goals (refine ⟨?_⟩; unfold cmpF; first | (rw [if_pos (by omega)]; done) | (rw [if_neg (by omega), if_pos (by omega)]; done) | (rw [if_neg (by omega), if_neg (by omega)]))
theorem cmpF_le {p q p' q' : Int} : cmpF p q p' q' ≤ 0 ↔ p * q' ≤ p' * q := by unfold cmpF; (repeat' split) <;> omega
/-- A valid span. -/
def spOk (p q p' q' : Int) : Bool := fOk p q && fOk p' q' && decide (p * q' ≤ p' * q)
theorem spOk_iff {p q p' q' : Int} : spOk p q p' q' = true ↔ fOk p q = true ∧ fOk p' q' = true ∧ p * q' ≤ p' * q := by simp [spOk, and_assoc]
def s_vSpan : Spec := fun args S => match args, S with
  | [.agg [.int .i64 p, .int .i64 q, .int .i64 p', .int .i64 q']], [] => ⟨True, .bool (spOk p q p' q'), []⟩
  | _, _ => noSpec
theorem allF_two {p q p' q' : Int} : allF (seg [(p, q), (p', q')] 0 2) = (fOk p q && fOk p' q') := by simp [allF, seg]
theorem ok_ValidSpan : SpecOk Tryz.prog 64 s_vSpan := by
  intro args S h; unfold s_vSpan at h ⊢; (split at h <;> first | exact False.elim h | skip)
  dsimp only at h ⊢
  rename_i p q p' q'
  have hc := cmpF_le (p := p) (q := q) (p' := p') (q' := q')
  refine funW tabOk (E := [(81, s_allF), (97, s_cmp)]) ⟨ok_areValid, ok_compare, trivial⟩ [] (k := 0) (fn := Tryz.f64) rfl rfl rfl rfl rfl rfl ?_
  (repeat' ((try (conv => whnf)); first | (with_reducible first | refine And.intro ?_ ?_ | refine WX.of ?_) | exact zc | ((with_reducible refine VC.mk ?_); exact zw) | (with_reducible first | refine splitT ?_ | refine splitF ?_) | ((with_reducible refine splitM.mk (fun hsm => ?_) (fun hsm => ?_)) <;> (try exact zx)) | ((with_reducible refine splitB.mk (fun h => ?_) (fun h => ?_)) <;> (try simp only [zs, ne_eq] at h) <;> (try simp (disch := omega) only [w64] at h) <;> (try exact zx)) | (with_reducible intro hz; (try exact absurd hz (Nat.succ_ne_zero _)))))
  · exact ⟨⟨Nat.le_refl 2, by omega⟩⟩
  · rw [allF_two, Bool.and_eq_true] at h
    exact ⟨⟨smF_ok h.1, smF_ok h.2⟩⟩
  · rw [allF_two, Bool.and_eq_true] at h
    refine ⟨congrArg SV.bool ?_⟩
    simp only [hc]; simp [spOk, h]
  · rw [allF_two] at h
    refine ⟨congrArg SV.bool ?_⟩
    simp only [spOk, h]; rfl
def s_l01Span : Spec := fun args S => match args, S with
  | [.ptr 0 i 0], [.arr (.prod (.prod (.int .i64) (.int .i64)) (.prod (.int .i64) (.int .i64))) l sz wr] => ⟨i < l.length, .bool (spOk ((l[i]?).getD ((0, 0), 0, 0)).1.1 ((l[i]?).getD ((0, 0), 0, 0)).1.2 ((l[i]?).getD ((0, 0), 0, 0)).2.1 ((l[i]?).getD ((0, 0), 0, 0)).2.2), [.arr (.prod (.prod (.int .i64) (.int .i64)) (.prod (.int .i64) (.int .i64))) l sz wr]⟩
  | _, _ => noSpec
theorem ok_l01Span : SpecOk Tryz.prog 248 s_l01Span := by
  intro args S h; unfold s_l01Span at h ⊢; (split at h <;> first | exact False.elim h | skip)
  dsimp only at h ⊢
  rename_i i l sz wr
  obtain ⟨⟨⟨p, q⟩, p', q'⟩, ha⟩ := get_some h
  have e : (l[i]?).getD ((0, 0), 0, 0) = ((p, q), p', q') := by rw [ha]; rfl
  rw [e]
  have hc := cmpF_le (p := p) (q := q) (p' := p') (q' := q')
  refine funW tabOk (E := [(192, s_fOk), (230, s_cmp)]) ⟨ok_l01Ok, ok_l01Cmp, trivial⟩ [] (k := 1) (fn := Tryz.f248) rfl rfl rfl rfl rfl rfl ?_
  (repeat' ((try (conv => whnf)); first | (with_reducible first | refine And.intro ?_ ?_ | refine WX.of ?_) | exact zc | ((with_reducible refine VC.mk ?_); exact zw) | refine atL_p ha ?_ | (with_reducible first | refine splitT ?_ | refine splitF ?_) | ((with_reducible refine splitM.mk (fun hsm => ?_) (fun hsm => ?_)) <;> (try exact zx)) | ((with_reducible refine splitB.mk (fun h => ?_) (fun h => ?_)) <;> (try simp only [zs, ne_eq] at h) <;> (try simp (disch := omega) only [w64] at h) <;> (try exact zx)) | (with_reducible intro hz; (try exact absurd hz (Nat.succ_ne_zero _)))))
  · rename_i h1
    exact ⟨⟨smF_ok h1, smF_ok h⟩⟩
  · rename_i h1
    exact ⟨congrArg SV.bool (by unfold spOk; dsimp only; rw [h1, h]; simp only [hc, Bool.true_and])⟩
  · rename_i h1
    exact ⟨congrArg SV.bool (by unfold spOk; dsimp only; rw [h1, h]; rfl)⟩
  · exact ⟨congrArg SV.bool (by unfold spOk; dsimp only; rw [h]; rfl)⟩
end Go.Proofs.YtamachahlhlhlaaGreatDoor.Eng
set_option linter.unusedVariables false
set_option linter.unusedSimpArgs false
namespace Go.Proofs.YtamachahlhlhlaaGreatDoor.Eng
open Go Go.RowKit
set_option maxRecDepth 100000
end Go.Proofs.YtamachahlhlhlaaGreatDoor.Eng
set_option linter.unusedVariables false
set_option linter.unusedSimpArgs false
namespace Go.Proofs.YtamachahlhlhlaaGreatDoor.Eng
open Go Go.RowKit
set_option maxRecDepth 100000
end Go.Proofs.YtamachahlhlhlaaGreatDoor.Eng
set_option linter.unusedVariables false
set_option linter.unusedSimpArgs false
namespace Go.Proofs.YtamachahlhlhlaaGreatDoor.Eng
open Go Go.RowKit
set_option maxRecDepth 100000
end Go.Proofs.YtamachahlhlhlaaGreatDoor.Eng
set_option linter.unusedVariables false
set_option linter.unusedSimpArgs false
namespace Go.Proofs.YtamachahlhlhlaaGreatDoor.Eng
open Go Go.RowKit
set_option maxRecDepth 100000
end Go.Proofs.YtamachahlhlhlaaGreatDoor.Eng
set_option linter.unusedVariables false
set_option linter.unusedSimpArgs false
namespace Go.Proofs.YtamachahlhlhlaaGreatDoor.Eng
open Go Go.RowKit
set_option maxRecDepth 100000
end Go.Proofs.YtamachahlhlhlaaGreatDoor.Eng
set_option linter.unusedVariables false
set_option linter.unusedSimpArgs false
namespace Go.Proofs.YtamachahlhlhlaaGreatDoor.Eng
open Go Go.RowKit
set_option maxRecDepth 100000
/-- The program's number of a text: 0 where it is none. -/
def nmb (s : List UInt8) : Int := match Lib.parseIntB 64 s with
  | .ok v => v
  | _ => 0
theorem pu_app : ∀ (a b : List UInt8) (acc k : Nat), Lib.parseUint10 acc a = .ok k → Lib.parseUint10 acc (a ++ b) = Lib.parseUint10 k b
  | [], b, acc, k, h => by
    simp only [Lib.parseUint10] at h
    injection h with h
    rw [h]; rfl
  | x :: a, b, acc, k, h => by
    simp only [List.cons_append, Lib.parseUint10] at h ⊢
    split at h
    · split at h
      · cases h
      · split at h
        · cases h
        · rename_i h1 h2 h3
          rw [if_pos h1, if_neg h2, if_neg h3]
          exact pu_app a b _ k h
    · cases h
theorem pu_decT : ∀ (k : Nat) (n : Int), 0 ≤ n → n < 10 ^ (k + 1) → n ≤ 9223372036854775807 → Lib.parseUint10 0 (decT k n) = .ok n.toNat
  | 0, n, h0, h1, h2 => by
    have h1 : n < 10 := by simpa using h1
    have e := dig_b (d := n % 10) (by omega) (by omega)
    simp only [decT, Lib.parseUint10]
    rw [e, if_pos (by omega), if_neg (by omega), if_neg (by omega)]
    congr 1
    omega
  | k + 1, n, h0, h1, h2 => by
    have e := dig_b (d := n % 10) (by omega) (by omega)
    simp only [decT]
    split
    · simp only [Lib.parseUint10]
      rw [e, if_pos (by omega), if_neg (by omega), if_neg (by omega)]
      congr 1
      omega
    · rw [pu_app _ _ 0 _ (pu_decT k (n / 10) (by omega) (by
        have : (10 : Int) ^ (k + 1 + 1) = 10 ^ (k + 1) * 10 := Int.pow_succ ..
        omega) (by omega))]
      simp only [Lib.parseUint10]
      rw [e, if_pos (by omega), if_neg (by omega), if_neg (by omega)]
      congr 1
      omega
theorem pm_dcl {n : Int} (h0 : 0 ≤ n) (h1 : n ≤ 9223372036854775807) : Lib.parseMag (dcl n) = .ok n.toNat := by
  unfold Lib.parseMag dcl
  rw [if_neg (decT_ne _ _)]
  exact pu_decT 18 n h0 (by
    have : (10 : Int) ^ (18 + 1) = 10000000000000000000 := by decide
    omega) h1
theorem nmb_sgT {n : Int} (h0 : -9223372036854775807 ≤ n) (h1 : n ≤ 9223372036854775807) : nmb (sgT n) = n := by
  unfold nmb
  rw [Lib.parseIntB_64]
  by_cases h : n < 0
  · rw [show sgT n = 45 :: dcl (-n) from if_pos h]
    unfold Lib.atoiAll
    simp only
    rw [if_pos (.inr (by decide)), pm_dcl (by omega) (by omega)]
    simp only
    rw [if_neg (by intro h; exact h.1 (by decide)), if_neg (by omega)]
    simp only
    rw [if_pos (by decide)]
    omega
  · rw [show sgT n = dcl n from if_neg h]
    have hd := dcl_b (n := n) (by omega) h1
    have hp := pm_dcl (n := n) (by omega) h1
    cases e : dcl n with
    | nil => exact absurd e (decT_ne 18 n)
    | cons c r =>
      have hc := hd c (by rw [e]; exact List.mem_cons_self)
      unfold dgB at hc
      rw [e] at hp
      unfold Lib.atoiAll
      simp only
      rw [if_neg (by omega), hp]
      simp only
      rw [if_neg (by omega), if_neg (by omega)]
      simp only
      rw [if_neg (by omega)]
      omega
end Go.Proofs.YtamachahlhlhlaaGreatDoor.Eng
set_option linter.unusedVariables false
set_option linter.unusedSimpArgs false
namespace Go.Proofs.YtamachahlhlhlaaGreatDoor.Eng
open Go Go.RowKit
set_option maxRecDepth 100000
theorem word_b {s : List UInt8} (h : wordB s = true) {c : UInt8} (hc : letB c = false) : c ∉ s := fun hm => by
  unfold wordB at h
  rw [Bool.and_eq_true, List.all_eq_true] at h
  have := h.2 c hm
  rw [hc] at this
  cases this
theorem dg_no {s : List UInt8} {c : UInt8} (h : ∀ x ∈ s, dgB x ∨ x = 45) (hc : c.toNat < 45) : c ∉ s := fun hm => by
  rcases h c hm with h | h
  · unfold dgB at h; omega
  · subst h; exact absurd hc (by decide)
end Go.Proofs.YtamachahlhlhlaaGreatDoor.Eng
set_option linter.unusedVariables false
set_option linter.unusedSimpArgs false
namespace Go.Proofs.YtamachahlhlhlaaGreatDoor.Eng
open Go Go.RowKit
set_option maxRecDepth 100000
/-- Each line gives one more, by what there is already. -/
def foL {α β : Type} (f : List β → α → Option β) : List β → List α → Option (List β)
  | b, [] => some b
  | b, x :: l => match f b x with
    | none => none
    | some y => foL f (b ++ [y]) l
theorem foL_app {α β : Type} {f : List β → α → Option β} : ∀ (l m : List α) (b : List β), foL f b (l ++ m) = (foL f b l).bind fun c => foL f c m
  | [], m, b => rfl
  | x :: l, m, b => by
    simp only [List.cons_append, foL]
    cases f b x with
    | none => rfl
    | some y => exact foL_app l m _
theorem foL_len {α β : Type} {f : List β → α → Option β} : ∀ {l : List α} {b R : List β}, foL f b l = some R → R.length = b.length + l.length ∧ b <+: R
  | [], b, R, h => by simp only [foL, Option.some.injEq] at h; subst h; exact ⟨rfl, List.prefix_refl _⟩
  | x :: l, b, R, h => by
    simp only [foL] at h
    split at h
    · cases h
    · rename_i y _
      obtain ⟨h1, h2⟩ := foL_len h
      refine ⟨by rw [h1]; simp; omega, List.IsPrefix.trans (List.prefix_append _ _) h2⟩
/-- Where all reads: how it stands before each line, and what this line gives. -/
theorem foL_at {α β : Type} {f : List β → α → Option β} {l : List α} {R : List β} (h : foL f [] l = some R) {i : Nat} {x : α} (hx : l[i]? = some x) : ∃ y, R[i]? = some y ∧ f (R.take i) x = some y := by
  obtain ⟨hi, rfl⟩ := List.getElem?_eq_some_iff.1 hx
  have e : l = l.take i ++ l[i] :: l.drop (i + 1) := by rw [← List.drop_eq_getElem_cons hi, List.take_append_drop]
  rw [e, foL_app] at h
  cases e1 : foL f [] (l.take i) with
  | none => rw [e1] at h; cases h
  | some c =>
    rw [e1] at h
    simp only [Option.bind_some, foL] at h
    obtain ⟨g1, g2⟩ := foL_len e1
    rw [List.length_take, List.length_nil] at g1
    have hc : c.length = i := by omega
    split at h
    · cases h
    · rename_i y hy
      obtain ⟨k1, k2⟩ := foL_len h
      obtain ⟨r, rfl⟩ := k2
      refine ⟨y, ?_, ?_⟩
      · rw [List.append_assoc, List.getElem?_append_right (by omega), hc]; simp
      · rw [List.append_assoc, List.take_left' hc]; exact hy
theorem foL_none {α β : Type} {f : List β → α → Option β} : ∀ {l : List α} {b : List β}, foL f b l = none → ∃ (k : Nat) (x : α) (pre : List β), l[k]? = some x ∧ foL f b (l.take k) = some pre ∧ f pre x = none
  | [], b, h => by simp [foL] at h
  | x :: l, b, h => by
    simp only [foL] at h
    cases e : f b x with
    | none => exact ⟨0, x, b, rfl, rfl, e⟩
    | some y =>
      rw [e] at h
      simp only at h
      obtain ⟨k, z, pre, h1, h2, h3⟩ := foL_none h
      refine ⟨k + 1, z, pre, by simpa using h1, ?_, h3⟩
      simp only [List.take_succ_cons, foL]
      rw [e]; exact h2
theorem foL_map {α β : Type} {f : List β → α → Option β} {g : β → α} {L : List β} (h : ∀ (i : Nat) (a : β), L[i]? = some a → f (L.take i) (g a) = some a) : ∀ (k i : Nat), i + k = L.length → foL f (L.take i) ((L.drop i).map g) = some L
  | 0, i, hi => by
    rw [List.take_of_length_le (by omega), List.drop_eq_nil_of_le (by omega)]; rfl
  | k + 1, i, hi => by
    have hlt : i < L.length := by omega
    rw [List.drop_eq_getElem_cons hlt, List.map_cons]
    simp only [foL]
    rw [h i _ (List.getElem?_eq_getElem hlt)]
    simp only
    rw [← List.take_succ_eq_append_getElem hlt]
    exact foL_map h k (i + 1) (by omega)
theorem foL_all {α β : Type} {f : List β → α → Option β} {g : β → α} {L : List β} (h : ∀ (i : Nat) (a : β), L[i]? = some a → f (L.take i) (g a) = some a) : foL f [] (L.map g) = some L := by
  simpa using foL_map h L.length 0 (by omega)
/-- Lines that bear no line's end, each with one behind it. -/
theorem spl_lines {α : Type} {c : UInt8} {g : α → List UInt8} : ∀ {M : List α}, (∀ a ∈ M, c ∉ g a) → splL c (M.flatMap fun a => g a ++ [c]) = M.map g ++ [[]]
  | [], _ => rfl
  | a :: M, h => by
    have e : (a :: M).flatMap (fun a => g a ++ [c]) = g a ++ c :: M.flatMap fun a => g a ++ [c] := by simp
    rw [e, splL_app (h a List.mem_cons_self), spl_lines fun b hb => h b (List.mem_cons_of_mem _ hb)]
    rfl
end Go.Proofs.YtamachahlhlhlaaGreatDoor.Eng
set_option linter.unusedVariables false
set_option linter.unusedSimpArgs false
namespace Go.Proofs.YtamachahlhlhlaaGreatDoor.Eng
open Go Go.RowKit
set_option maxRecDepth 100000
/-- As the reference splits: the pieces so far, where the next begins. -/
def spS (c : UInt8) (s : List UInt8) : Nat → List (List UInt8) × Nat
  | 0 => ([], 0)
  | i + 1 => if s[i]? = some c then ((spS c s i).1 ++ [(s.take i).drop (spS c s i).2], i + 1) else spS c s i
theorem spS_inv (c : UInt8) (s : List UInt8) : ∀ i, i ≤ s.length → (spS c s i).2 ≤ i ∧ (spS c s i).1.length ≤ i ∧ c ∉ (s.take i).drop (spS c s i).2 ∧ splL c s = (spS c s i).1 ++ splL c (s.drop (spS c s i).2)
  | 0, _ => by simp [spS]
  | i + 1, h => by
    obtain ⟨h1, h2, h3, h4⟩ := spS_inv c s i (by omega)
    have hi : i < s.length := by omega
    have ht : s.take (i + 1) = s.take i ++ [s[i]] := List.take_succ_eq_append_getElem hi
    simp only [spS]
    by_cases hc : s[i]? = some c
    · rw [if_pos hc]
      have he : s[i] = c := by rw [List.getElem?_eq_getElem hi] at hc; exact Option.some.inj hc
      refine ⟨Nat.le_refl _, by simp; exact h2, by simp, ?_⟩
      have hd : ∀ b, b ≤ i → s.drop b = (s.take i).drop b ++ c :: s.drop (i + 1) := fun b hb => by
        conv => lhs; rw [← List.take_append_drop i s]
        rw [List.drop_append_of_le_length (by rw [List.length_take]; omega), List.drop_eq_getElem_cons hi, he]
      rw [h4, hd _ h1, splL_app h3]
      simp
    · rw [if_neg hc]
      refine ⟨by omega, by omega, ?_, h4⟩
      rw [ht, List.drop_append_of_le_length (by rw [List.length_take]; omega)]
      intro hm
      rcases List.mem_append.1 hm with hm | hm
      · exact h3 hm
      · rw [List.mem_singleton] at hm
        exact hc (by rw [List.getElem?_eq_getElem hi, hm])
theorem spS_end (c : UInt8) (s : List UInt8) : splL c s = (spS c s s.length).1 ++ [s.drop (spS c s s.length).2] := by
  obtain ⟨_, _, h3, h4⟩ := spS_inv c s s.length (Nat.le_refl _)
  rw [List.take_length] at h3
  rw [h4, splL_no h3]
end Go.Proofs.YtamachahlhlhlaaGreatDoor.Eng
set_option linter.unusedVariables false
set_option linter.unusedSimpArgs false
namespace Go.Proofs.YtamachahlhlhlaaGreatDoor.Eng
open Go Go.RowKit
set_option maxRecDepth 100000
def sh_laysC174_ren : Go.Shelf.Ren := ⟨fun | 174 => 207 | 247 => 269 | 245 => 270 | 287 => 301 | 279 => 302 | 280 => 303 | 281 => 304 | 282 => 305 | 321 => 321 | 322 => 322 | 316 => 323 | 171 => 325 | 205 => 324 | 243 => 337 | 246 => 274 | 283 => 308 | 284 => 309 | 285 => 310 | 286 => 311 | 129 => 327 | 317 => 326 | 318 => 328 | 319 => 329 | 320 => 330 | 337 => 338 | 338 => 339 | n => n, fun | 9 => 9 | 3 => 3 | 2 => 2 | 75 => 227 | 85 => 228 | 4 => 4 | 167 => 303 | 5 => 5 | 53 => 214 | 175 => 304 | 46 => 275 | 168 => 306 | 37 => 22 | 0 => 0 | 210 => 324 | 21 => 21 | 127 => 282 | 145 => 340 | 143 => 338 | 171 => 312 | 173 => 315 | 212 => 327 | 51 => 328 | 20 => 20 | 213 => 329 | 232 => 344 | 233 => 345 | 80 => 237 | n => n, fun | 15 => 1 | 16 => 2 | 17 => 3 | 18 => 6 | 19 => 7 | n => n⟩
theorem sh_laysC174 : Go.Proofs.LaysC.n174 Tryz.prog sh_laysC174_ren := {
  mixed := by kernel_rfl
  f129 := Tryz.func327.trans (congrArg some (by kernel_rfl))
  f171 := Tryz.func325.trans (congrArg some (by kernel_rfl))
  f174 := Tryz.func207.trans (congrArg some (by kernel_rfl))
  f205 := Tryz.func324.trans (congrArg some (by kernel_rfl))
  f243 := Tryz.func337.trans (congrArg some (by kernel_rfl))
  f245 := Tryz.func270.trans (congrArg some (by kernel_rfl))
  f246 := Tryz.func274.trans (congrArg some (by kernel_rfl))
  f247 := Tryz.func269.trans (congrArg some (by kernel_rfl))
  f279 := Tryz.func302.trans (congrArg some (by kernel_rfl))
  f280 := Tryz.func303.trans (congrArg some (by kernel_rfl))
  f281 := Tryz.func304.trans (congrArg some (by kernel_rfl))
  f282 := Tryz.func305.trans (congrArg some (by kernel_rfl))
  f283 := Tryz.func308.trans (congrArg some (by kernel_rfl))
  f284 := Tryz.func309.trans (congrArg some (by kernel_rfl))
  f285 := Tryz.func310.trans (congrArg some (by kernel_rfl))
  f286 := Tryz.func311.trans (congrArg some (by kernel_rfl))
  f287 := Tryz.func301.trans (congrArg some (by kernel_rfl))
  f316 := Tryz.func323.trans (congrArg some (by kernel_rfl))
  f317 := Tryz.func326.trans (congrArg some (by kernel_rfl))
  f318 := Tryz.func328.trans (congrArg some (by kernel_rfl))
  f319 := Tryz.func329.trans (congrArg some (by kernel_rfl))
  f320 := Tryz.func330.trans (congrArg some (by kernel_rfl))
  f321 := Tryz.func321.trans (congrArg some (by kernel_rfl))
  f322 := Tryz.func322.trans (congrArg some (by kernel_rfl))
  f337 := Tryz.func338.trans (congrArg some (by kernel_rfl))
  f338 := Tryz.func339.trans (congrArg some (by kernel_rfl))
  t0 := Tryz.underlying0
  a0 := Tryz.isAgg0
  z0 := Tryz.sizeOf0
  v0 := Tryz.zeroValue0
  t2 := Tryz.underlying2
  a2 := Tryz.isAgg2
  z2 := Tryz.sizeOf2
  v2 := Tryz.zeroValue2
  t3 := Tryz.underlying3
  a3 := Tryz.isAgg3
  z3 := Tryz.sizeOf3
  v3 := Tryz.zeroValue3
  t4 := Tryz.underlying4
  a4 := Tryz.isAgg4
  z4 := Tryz.sizeOf4
  v4 := Tryz.zeroValue4
  t5 := Tryz.underlying5
  a5 := Tryz.isAgg5
  z5 := Tryz.sizeOf5
  v5 := Tryz.zeroValue5
  t9 := Tryz.underlying9
  a9 := Tryz.isAgg9
  z9 := Tryz.sizeOf9
  v9 := Tryz.zeroValue9
  t20 := Tryz.underlying20
  a20 := Tryz.isAgg20
  z20 := Tryz.sizeOf20
  v20 := Tryz.zeroValue20
  t21 := Tryz.underlying21
  a21 := Tryz.isAgg21
  z21 := Tryz.sizeOf21
  v21 := Tryz.zeroValue21
  t37 := Tryz.underlying22
  a37 := Tryz.isAgg22
  z37 := Tryz.sizeOf22
  v37 := Tryz.zeroValue22
  t46 := Tryz.underlying275
  a46 := Tryz.isAgg275
  z46 := Tryz.sizeOf275
  v46 := Tryz.zeroValue275
  t51 := Tryz.underlying328
  a51 := Tryz.isAgg328
  z51 := Tryz.sizeOf328
  v51 := Tryz.zeroValue328
  t53 := Tryz.underlying214
  a53 := Tryz.isAgg214
  z53 := Tryz.sizeOf214
  v53 := Tryz.zeroValue214
  t75 := Tryz.underlying227
  a75 := Tryz.isAgg227
  z75 := Tryz.sizeOf227
  v75 := Tryz.zeroValue227
  t85 := Tryz.underlying228
  a85 := Tryz.isAgg228
  z85 := Tryz.sizeOf228
  v85 := Tryz.zeroValue228
  t127 := Tryz.underlying282
  a127 := Tryz.isAgg282
  z127 := Tryz.sizeOf282
  v127 := Tryz.zeroValue282
  t143 := Tryz.underlying338
  a143 := Tryz.isAgg338
  z143 := Tryz.sizeOf338
  v143 := Tryz.zeroValue338
  t145 := Tryz.underlying340
  a145 := Tryz.isAgg340
  z145 := Tryz.sizeOf340
  v145 := Tryz.zeroValue340
  t167 := Tryz.underlying303
  a167 := Tryz.isAgg303
  z167 := Tryz.sizeOf303
  v167 := Tryz.zeroValue303
  t168 := Tryz.underlying306
  a168 := Tryz.isAgg306
  z168 := Tryz.sizeOf306
  v168 := Tryz.zeroValue306
  t171 := Tryz.underlying312
  a171 := Tryz.isAgg312
  z171 := Tryz.sizeOf312
  v171 := Tryz.zeroValue312
  t173 := Tryz.underlying315
  a173 := Tryz.isAgg315
  z173 := Tryz.sizeOf315
  v173 := Tryz.zeroValue315
  t175 := Tryz.underlying304
  a175 := Tryz.isAgg304
  z175 := Tryz.sizeOf304
  v175 := Tryz.zeroValue304
  t210 := Tryz.underlying324
  a210 := Tryz.isAgg324
  z210 := Tryz.sizeOf324
  v210 := Tryz.zeroValue324
  t212 := Tryz.underlying327
  a212 := Tryz.isAgg327
  z212 := Tryz.sizeOf327
  v212 := Tryz.zeroValue327
  t213 := Tryz.underlying329
  a213 := Tryz.isAgg329
  z213 := Tryz.sizeOf329
  t232 := Tryz.underlying344
  a232 := Tryz.isAgg344
  z232 := Tryz.sizeOf344
  v232 := Tryz.zeroValue344
  t233 := Tryz.underlying345
  a233 := Tryz.isAgg345
  z233 := Tryz.sizeOf345
  v233 := Tryz.zeroValue345
  g15 := by kernel_rfl
  g16 := by kernel_rfl
  g17 := by kernel_rfl
  g18 := by kernel_rfl
  g19 := by kernel_rfl
  t80 := Tryz.underlying237
  a80 := Tryz.isAgg237
  z80 := Tryz.sizeOf237
  v80 := Tryz.zeroValue237
  i0 := by kernel_rfl
  i2 := by kernel_rfl
  i3 := by kernel_rfl
  i4 := by kernel_rfl
  i5 := by kernel_rfl
  i9 := by kernel_rfl
  i20 := by kernel_rfl
  i21 := by kernel_rfl
  i37 := by kernel_rfl
  i46 := by kernel_rfl
  i51 := by kernel_rfl
  i53 := by kernel_rfl
  i75 := by kernel_rfl
  i80 := by kernel_rfl
  i85 := by kernel_rfl
  i127 := by kernel_rfl
  i143 := by kernel_rfl
  i145 := by kernel_rfl
  i167 := by kernel_rfl
  i168 := by kernel_rfl
  i171 := by kernel_rfl
  i173 := by kernel_rfl
  i175 := by kernel_rfl
  i210 := by kernel_rfl
  i212 := by kernel_rfl
  i232 := by kernel_rfl
  i233 := by kernel_rfl
  m15 := by kernel_rfl
  m16 := by kernel_rfl
  m17 := by kernel_rfl
  m18 := by kernel_rfl
  m19 := by kernel_rfl
  c0 := by kernel_rfl
  c2 := by kernel_rfl
  c3 := by kernel_rfl
  c4 := by kernel_rfl
  c5 := by kernel_rfl
  c9 := by kernel_rfl
  c20 := by kernel_rfl
  c21 := by kernel_rfl
  c37 := by kernel_rfl
  c46 := by kernel_rfl
  c51 := by kernel_rfl
  c53 := by kernel_rfl
  c75 := by kernel_rfl
  c80 := by kernel_rfl
  c85 := by kernel_rfl
  c127 := by kernel_rfl
  c143 := by kernel_rfl
  c145 := by kernel_rfl
  c167 := by kernel_rfl
  c168 := by kernel_rfl
  c171 := by kernel_rfl
  c173 := by kernel_rfl
  c175 := by kernel_rfl
  c210 := by kernel_rfl
  c212 := by kernel_rfl
  c213 := by kernel_rfl
  c232 := by kernel_rfl
  c233 := by kernel_rfl }
open Go.RowKit in
/-- strconv.ParseInt(s, 10, 64), AT EVERY STRING THAT SPELLS AN int64 ('Lib.parseIntB 64 s.data.toList = .ok v'): v, AND NO ERROR. (LAID: no walk: one application.) -/
theorem sh_strconv_ParseInt_10_at64_ok (s : ByteArray) (hmax : s.size ≤ 9223372036854775806) (v : Int) (h : Lib.parseIntB 64 s.data.toList = .ok v) (w : World) :
    Calls Tryz.prog 207 #[.string s, .int .i64 10, .int .i64 64] w fun e w' => e = .returned (.tuple #[.int .i64 v, .nilIface]) ∧ (w' = w ∨ ∃ t, w' = Lib.bytesWorld w 5 t) := Any.strconv_ParseInt_10_at64_ok sh_laysC174 s hmax v h w
open Go.RowKit in
theorem sh_strconv_ParseInt_10_at64_syntax_var (s : ByteArray) (hlim : s.size ≤ 281474976710656) (h : Lib.parseIntB 64 s.data.toList = .«syntax») (tp : TypeId) (p : Value) (w : World) (hvar : w.var? Tryz.prog "strconv.ErrSyntax" = some #[.iface tp p]) :
    Calls Tryz.prog 207 #[.string s, .int .i64 10, .int .i64 64] w fun e w' => ∃ N, e = .returned (.tuple #[.int .i64 (0), .iface 306 (.pointer (some ⟨N, 0, none⟩))]) ∧ w.heap.size ≤ N ∧ w'.heap[N]? = some (.cells #[.string ⟨#[80, 97, 114, 115, 101, 73, 110, 116]⟩, .string s, .iface tp p] 324 (0, 0)) ∧ Below w.heap.size w w' := Any.strconv_ParseInt_10_at64_syntax_var sh_laysC174 s hlim h tp p w hvar
open Go.RowKit in
theorem sh_strconv_ParseInt_10_at64_range_var (s : ByteArray) (hlim : s.size ≤ 281474976710656) (h : Lib.parseIntB 64 s.data.toList = .range) (tp : TypeId) (p : Value) (w : World) (hvar : w.var? Tryz.prog "strconv.ErrRange" = some #[.iface tp p]) :
    Calls Tryz.prog 207 #[.string s, .int .i64 10, .int .i64 64] w fun e w' => ∃ N, e = .returned (.tuple #[.int .i64 (Lib.intSat 64 s.data.toList), .iface 306 (.pointer (some ⟨N, 0, none⟩))]) ∧ w.heap.size ≤ N ∧ w'.heap[N]? = some (.cells #[.string ⟨#[80, 97, 114, 115, 101, 73, 110, 116]⟩, .string s, .iface tp p] 324 (0, 0)) ∧ Below w.heap.size w w' := Any.strconv_ParseInt_10_at64_range_var sh_laysC174 s hlim h tp p w hvar
def sh_lays146_ren : Go.Shelf.Ren := ⟨fun | 146 => 105 | 221 => 206 | 268 => 266 | 138 => 267 | 143 => 268 | 195 => 297 | 197 => 298 | 218 => 299 | 219 => 300 | 260 => 316 | 217 => 317 | 225 => 318 | 224 => 319 | 267 => 320 | 266 => 335 | 314 => 336 | n => n, fun | 9 => 9 | 31 => 150 | 3 => 3 | 4 => 4 | 0 => 0 | 105 => 300 | 21 => 21 | 5 => 5 | 46 => 275 | 119 => 332 | 139 => 335 | 138 => 334 | 146 => 336 | 51 => 328 | n => n, fun | 1 => 0 | 3 => 4 | 4 => 5 | n => n⟩
theorem sh_lays146 : Go.Proofs.Lays.n146 Tryz.prog sh_lays146_ren := {
  mixed := by kernel_rfl
  f138 := Tryz.func267.trans (congrArg some (by kernel_rfl))
  f143 := Tryz.func268.trans (congrArg some (by kernel_rfl))
  f146 := Tryz.func105.trans (congrArg some (by kernel_rfl))
  f195 := Tryz.func297.trans (congrArg some (by kernel_rfl))
  f197 := Tryz.func298.trans (congrArg some (by kernel_rfl))
  f217 := Tryz.func317.trans (congrArg some (by kernel_rfl))
  f218 := Tryz.func299.trans (congrArg some (by kernel_rfl))
  f219 := Tryz.func300.trans (congrArg some (by kernel_rfl))
  f221 := Tryz.func206.trans (congrArg some (by kernel_rfl))
  f224 := Tryz.func319.trans (congrArg some (by kernel_rfl))
  f225 := Tryz.func318.trans (congrArg some (by kernel_rfl))
  f260 := Tryz.func316.trans (congrArg some (by kernel_rfl))
  f266 := Tryz.func335.trans (congrArg some (by kernel_rfl))
  f267 := Tryz.func320.trans (congrArg some (by kernel_rfl))
  f268 := Tryz.func266.trans (congrArg some (by kernel_rfl))
  f314 := Tryz.func336.trans (congrArg some (by kernel_rfl))
  t0 := Tryz.underlying0
  a0 := Tryz.isAgg0
  z0 := Tryz.sizeOf0
  v0 := Tryz.zeroValue0
  t3 := Tryz.underlying3
  a3 := Tryz.isAgg3
  z3 := Tryz.sizeOf3
  v3 := Tryz.zeroValue3
  t4 := Tryz.underlying4
  a4 := Tryz.isAgg4
  z4 := Tryz.sizeOf4
  v4 := Tryz.zeroValue4
  t5 := Tryz.underlying5
  a5 := Tryz.isAgg5
  z5 := Tryz.sizeOf5
  v5 := Tryz.zeroValue5
  t9 := Tryz.underlying9
  a9 := Tryz.isAgg9
  z9 := Tryz.sizeOf9
  v9 := Tryz.zeroValue9
  t21 := Tryz.underlying21
  a21 := Tryz.isAgg21
  z21 := Tryz.sizeOf21
  v21 := Tryz.zeroValue21
  t31 := Tryz.underlying150
  a31 := Tryz.isAgg150
  z31 := Tryz.sizeOf150
  v31 := Tryz.zeroValue150
  t46 := Tryz.underlying275
  a46 := Tryz.isAgg275
  z46 := Tryz.sizeOf275
  v46 := Tryz.zeroValue275
  t51 := Tryz.underlying328
  a51 := Tryz.isAgg328
  z51 := Tryz.sizeOf328
  v51 := Tryz.zeroValue328
  t105 := Tryz.underlying300
  a105 := Tryz.isAgg300
  z105 := Tryz.sizeOf300
  v105 := Tryz.zeroValue300
  t119 := Tryz.underlying332
  a119 := Tryz.isAgg332
  z119 := Tryz.sizeOf332
  t138 := Tryz.underlying334
  a138 := Tryz.isAgg334
  z138 := Tryz.sizeOf334
  v138 := Tryz.zeroValue334
  t139 := Tryz.underlying335
  a139 := Tryz.isAgg335
  z139 := Tryz.sizeOf335
  v139 := Tryz.zeroValue335
  t146 := Tryz.underlying336
  a146 := Tryz.isAgg336
  z146 := Tryz.sizeOf336
  v146 := Tryz.zeroValue336
  g1 := by kernel_rfl
  g3 := by kernel_rfl
  g4 := by kernel_rfl }
open Go.RowKit Go.Lib in
/-- strings.Split. (LAID: no walk: one application.) -/
theorem sh_strings_Split (s sep : ByteArray) (m : Int) (w : World) (hs : s.size < 4294967281) (hm : w.cell? ⟨0, 0, none⟩ = some (.int .i64 m)) (h1 : 1 ≤ sep.size) :
    Calls Tryz.prog 105 #[.string s, .string sep] w fun e w' =>
      e = .returned (.slice (some ⟨w.heap.size, 0, none⟩) (Lib.countB s sep + 1) (Lib.countB s sep + 1)) ∧ w' = w.alloc (.cells ((Lib.splitB sep 0 (Lib.countB s sep) s).map Value.string).toArray 9) := Any.strings_Split sh_lays146 (by kernel_rfl) s sep m w hs hm h1
/-- What the world holds of the library's variables. -/
def RdW (w : World) : Prop := (∃ m : Int, w.cell? ⟨0, 0, none⟩ = some (.int .i64 m)) ∧ (∃ (t : TypeId) (p : Value), w.var? Tryz.prog "strconv.ErrSyntax" = some #[.iface t p]) ∧ (∃ (t : TypeId) (p : Value), w.var? Tryz.prog "strconv.ErrRange" = some #[.iface t p])
theorem HRel.rd {w0 w : World} {ι : Ren} {H : Heap} (h : HRel w0 ι H w) : RdW w := by
  obtain ⟨_, ⟨m, hm⟩, ⟨t, p, h1⟩, ⟨t', p', h2⟩⟩ := h.glob.1
  refine ⟨⟨m, ?_⟩, ⟨t, p, var_below h.below h1⟩, ⟨t', p', var_below h.below h2⟩⟩
  rw [h.below.cell (World.block_lt_of_cell? _ _ hm)]
  exact hm
set_option maxRecDepth 100000 in
theorem number_calls (s : List UInt8) (hs : s.length ≤ 1048576) (w : World) (h : RdW w) : Calls Tryz.prog 107 #[.string ⟨⟨s⟩⟩] w fun e w' => e = .returned (.int .i64 (nmb s)) ∧ Below w.heap.size w w' := by
  obtain ⟨_, ⟨t, p, h1⟩, ⟨t', p', h2⟩⟩ := h
  have hsz : (⟨⟨s⟩⟩ : ByteArray).size = s.length := rfl
  cases e : Lib.parseIntB 64 s with
  | ok v =>
    have hn : nmb s = v := by unfold nmb; rw [e]
    rw [hn]
    go_enter Tryz.func107, Tryz.ntmps107
    go_wp2_with (go_at_call 207; refine (sh_strconv_ParseInt_10_at64_ok ⟨⟨s⟩⟩ (by rw [hsz]; omega) v e _).mono ?_; rintro e w' ⟨rfl, hw⟩)
    go_ret
    refine ⟨rfl, ?_⟩
    rcases hw with rfl | ⟨t, rfl⟩
    · exact Below.refl _ _
    · exact Lib.bytesWorld_below _ _ _
  | «syntax» =>
    have hn : nmb s = 0 := by unfold nmb; rw [e]
    rw [hn]
    go_enter Tryz.func107, Tryz.ntmps107
    go_wp2_with (go_at_call 207; refine (sh_strconv_ParseInt_10_at64_syntax_var ⟨⟨s⟩⟩ (by rw [hsz]; omega) e t p _ h1).mono ?_; rintro e w' ⟨N, rfl, _, _, hb⟩)
    go_ret
    exact ⟨rfl, hb⟩
  | range =>
    have hn : nmb s = 0 := by unfold nmb; rw [e]
    rw [hn]
    go_enter Tryz.func107, Tryz.ntmps107
    go_wp2_with (go_at_call 207; refine (sh_strconv_ParseInt_10_at64_range_var ⟨⟨s⟩⟩ (by rw [hsz]; omega) e t' p' _ h2).mono ?_; rintro e w' ⟨N, rfl, _, _, hb⟩)
    go_ret
    exact ⟨rfl, hb⟩
/-- A call of flat values that answers a flat value and leaves what was; what the world holds of the library's variables is told. -/
theorem Runs_flatR {f : FuncId} {H : Heap} {more : List Value} {v : Value} (hen : Enters Tryz.prog f) (hmore : ∀ {ι : Ren} {ys : List Value}, LRel ι more ys → ys = more) (hv : flatV v = true)
    (hcon : ∀ w, RdW w → Calls Tryz.prog f ⟨more⟩ w fun e w' => e = .returned v ∧ Below w.heap.size w w') :
    Runs Tryz.prog f more H (fun u G => u = v ∧ G = H) := by
  refine ⟨hen, fun w0 ι w args' h2 h3 => ?_⟩
  have := hmore h3
  subst this
  refine (hcon w h2.rd).mono fun e w' ⟨he, hb⟩ => ?_
  exact ⟨_, _, _, ι, he, ⟨rfl, rfl⟩, .flat hv, h2.after hb, .refl _ _, OCs.refl _ _, Nat.le_refl _⟩
theorem RunsS_flatR {f : FuncId} {args : List SV} {S : List SB} {v : SV} (hen : Enters Tryz.prog f) (ha : args.all flatS = true) (hv : flatS v = true)
    (hcon : ∀ w, RdW w → Calls Tryz.prog f ⟨args.map toV⟩ w fun e w' => e = .returned (toV v) ∧ Below w.heap.size w w') : RunsS Tryz.prog f args S v S := by
  intro H ρ args' hD hd h
  have e := LDR.fun2 h (map_toV ha ρ)
  subst e
  have hfl := (map_toV ha ρ).flat ha
  have h1 := map_toV (xs := [v]) (by simp [hv]) ρ
  have hvf : flatV (toV v) = true := (List.all_eq_true.1 (h1.flat (by simp [hv]))) _ (by simp)
  obtain ⟨u, r, e1, hdr, _⟩ := h1.inv_cons
  obtain ⟨rfl, _⟩ := List.cons.inj e1
  refine ⟨toV v, H, ρ, Runs_flatR hen (fun hl => (hl.flat_eq fun v hv => List.all_eq_true.1 hfl v hv)) hvf hcon, hdr, .refl hD hd⟩
def s_nmb : Spec := fun args S => match args, S with
  | [.str s], [] => ⟨s.length ≤ 1048576, .int .i64 (nmb s), []⟩
  | _, _ => noSpec
theorem ok_number : SpecOk Tryz.prog 107 s_nmb := by
  intro args S h; unfold s_nmb at h ⊢; (split at h <;> first | exact False.elim h | skip)
  dsimp only at h ⊢
  rename_i s
  exact RunsS_flatR ⟨Tryz.f107, rfl, rfl, rfl⟩ rfl rfl fun w hw => number_calls s h w hw
/-- A call of flat values that answers a new list. -/
theorem Runs_new {f : FuncId} {H : Heap} {more L : List Value} {e : TypeId} (hfl : ∀ v ∈ L, flatV v = true) (hen : Enters Tryz.prog f) (hmore : ∀ {ι : Ren} {ys : List Value}, LRel ι more ys → ys = more)
    (hcon : ∀ w, RdW w → Calls Tryz.prog f ⟨more⟩ w fun ex w' => ex = .returned (.slice (some ⟨w.heap.size, 0, none⟩) L.length L.length) ∧ w' = w.alloc (.cells L.toArray e)) :
    Runs Tryz.prog f more H (fun u G => u = .slice (some ⟨H.length, 0, none⟩) L.length (L.length + 0 + 1) ∧ G = H ++ [some ⟨L, 1, true, true⟩]) := by
  refine ⟨hen, fun w0 ι w args' h2 h3 => ?_⟩
  have := hmore h3
  subst this
  refine (hcon w h2.rd).mono fun ex w' ⟨he, hw⟩ => ?_
  subst hw
  have hp := h2.push ⟨L, 1, true, true⟩ L.toArray e (by simp) (fun j v hv => ⟨v, by simpa using hv, .flat (hfl v (List.mem_of_getElem? hv))⟩) (fun _ => hfl)
  refine ⟨_, _, _, _, he, ⟨rfl, rfl⟩, ?_, hp, upd_ext ι _ _, OCs.push _ H _ (Nat.le_refl _), by simp⟩
  exact .sl _ _ _ _ ⟨w.heap.size, 0, L.toArray.size, 1⟩ _ _ (by simp [upd]) (Nat.le_refl _) (by omega) (by omega) (by simp) (.inl rfl)
end Go.Proofs.YtamachahlhlhlaaGreatDoor.Eng
set_option linter.unusedVariables false
set_option linter.unusedSimpArgs false
namespace Go.Proofs.YtamachahlhlhlaaGreatDoor.Eng
open Go Go.RowKit
set_option maxRecDepth 100000
theorem ix_no {c : UInt8} : ∀ {s : List UInt8}, c ∉ s → Lib.index s [c] = -1
  | [], _ => rfl
  | b :: l, h => by
    have h1 : ¬ c = b := fun e => h (by rw [e]; exact List.mem_cons_self)
    have h2 := ix_no (c := c) (s := l) fun e => h (List.mem_cons_of_mem _ e)
    unfold Lib.index
    rw [if_neg (by simp [List.isPrefixOf, h1]), h2]
    rfl
theorem ix_app {c : UInt8} : ∀ {a b : List UInt8}, c ∉ a → Lib.index (a ++ c :: b) [c] = a.length
  | [], b, _ => by
    simp only [List.nil_append]
    unfold Lib.index
    rw [if_pos (by simp [List.isPrefixOf])]
    rfl
  | x :: a, b, h => by
    have h1 : ¬ c = x := fun e => h (by rw [e]; exact List.mem_cons_self)
    have h2 := ix_app (c := c) (a := a) (b := b) fun e => h (List.mem_cons_of_mem _ e)
    simp only [List.cons_append]
    unfold Lib.index
    rw [if_neg (by simp [List.isPrefixOf, h1]), h2, if_neg (by simp)]
    simp
theorem spl_cases (c : UInt8) : ∀ s : List UInt8, c ∉ s ∨ ∃ a b, s = a ++ c :: b ∧ c ∉ a
  | [] => .inl (by simp)
  | x :: r => by
    by_cases h : c = x
    · subst h; exact .inr ⟨[], r, rfl, by simp⟩
    · rcases spl_cases c r with h1 | ⟨a, b, rfl, h1⟩
      · exact .inl (by simp [h, h1])
      · exact .inr ⟨x :: a, b, rfl, by simp [h, h1]⟩
theorem spl_lib (c : UInt8) : ∀ (n : Nat) (s : List UInt8), s.length ≤ n → Lib.splitK [c] 0 (Lib.count s [c]) s = splL c s ∧ (splL c s).length = Lib.count s [c] + 1
  | 0, s, h => by
    have : s = [] := List.eq_nil_of_length_eq_zero (by omega)
    subst this
    exact ⟨rfl, rfl⟩
  | n + 1, s, h => by
    rcases spl_cases c s with h1 | ⟨a, b, rfl, h1⟩
    · rw [Lib.count_miss (ix_no h1), splL_no h1]
      exact ⟨rfl, rfl⟩
    · have hi := ix_app (b := b) h1
      have hc := Lib.count_hit (sub := [c]) (by simp) hi
      have hd : (a ++ c :: b).drop (a.length + [c].length) = b := by
        rw [List.drop_append]; simp
      rw [hd] at hc
      simp only [List.length_append, List.length_cons] at h
      obtain ⟨g1, g2⟩ := spl_lib c n b (by omega)
      rw [hc, splL_app h1, Nat.add_comm 1]
      refine ⟨?_, by simp [g2]⟩
      unfold Lib.splitK
      rw [if_neg (by rw [hi]; simp), hi]
      have e1 : (a ++ c :: b).take ((a.length : Int).toNat + 0) = a := by simp
      have e2 : (a ++ c :: b).drop ((a.length : Int).toNat + [c].length) = b := by rw [Int.toNat_natCast]; exact hd
      rw [e1, e2, g1]
def s_spl : Spec := fun args S => match args, S with
  | [.str s, .str [c]], [] => ⟨s.length ≤ 1048576, .sl 0 0 (splL c s).length 0, [.arr .str (splL c s) 1 true]⟩
  | _, _ => noSpec
theorem ok_Split : SpecOk Tryz.prog 105 s_spl := by
  intro args S h; unfold s_spl at h ⊢; (split at h <;> first | exact False.elim h | skip)
  dsimp only at h ⊢
  rename_i s c
  obtain ⟨g1, g2⟩ := spl_lib c s.length s (Nat.le_refl _)
  intro H ρ args' hD hd ha
  have e := LDR.fun2 ha (map_toV (xs := [.str s, .str [c]]) rfl ρ)
  subst e
  have hfl : ∀ v ∈ (splL c s).map fun x => toV (.str x), flatV v = true := fun v hv => by
    obtain ⟨x, _, rfl⟩ := List.mem_map.1 hv
    rfl
  have hrun := Runs_new (f := 105) (H := H) (more := [toV (.str s), toV (.str [c])]) (L := (splL c s).map fun x => toV (.str x)) (e := 9) hfl ⟨Tryz.f105, rfl, rfl, rfl⟩
    (fun hy => hy.flat_eq fun v hv => by
      simp only [List.mem_cons, List.not_mem_nil, or_false] at hv
      rcases hv with rfl | rfl <;> rfl) (fun w hw => by
      obtain ⟨⟨m, hm⟩, _⟩ := hw
      have := sh_strings_Split ⟨⟨s⟩⟩ ⟨⟨[c]⟩⟩ m w (by show s.length < _; omega) hm (by show 1 ≤ 1; omega)
      have e3 : (Lib.splitB ⟨⟨[c]⟩⟩ 0 (Lib.countB ⟨⟨s⟩⟩ ⟨⟨[c]⟩⟩) ⟨⟨s⟩⟩).map Value.string = (splL c s).map fun x => toV (.str x) := by
        have := Lib.splitB_data ⟨⟨[c]⟩⟩ 0 (Lib.countB ⟨⟨s⟩⟩ ⟨⟨[c]⟩⟩) ⟨⟨s⟩⟩
        have h9 : Lib.splitK [c] 0 (Lib.count s [c]) s = (Lib.splitB ⟨⟨[c]⟩⟩ 0 (Lib.countB ⟨⟨s⟩⟩ ⟨⟨[c]⟩⟩) ⟨⟨s⟩⟩).map (·.data.toList) := this.symm
        rw [← g1, h9, List.map_map]
        rfl
      rw [e3] at this
      rw [List.length_map, g2]
      exact this)
  rw [List.length_map] at hrun
  refine ⟨_, _, _, hrun, ?_, Step.push (w := 1) hD hd ?_⟩
  · have := DR.sl (ρ := updN ρ 0 (H.length, 1)) 0 0 (splL c s).length 0 H.length 1 (updN_self _ _ _)
    simpa using this
  · refine ⟨rfl, rfl, fun _ => rfl, rfl, ?_⟩
    have h5 := map_toV (xs := (splL c s).flatMap (ET.enc .str)) (flat_all _) (updN ρ 0 (H.length, 1))
    rw [fm_str, List.map_map] at h5
    rw [fm_str]
    exact h5
end Go.Proofs.YtamachahlhlhlaaGreatDoor.Eng
set_option linter.unusedVariables false
set_option linter.unusedSimpArgs false
namespace Go.Proofs.YtamachahlhlhlaaGreatDoor.Eng
open Go Go.RowKit
set_option maxRecDepth 100000
theorem wd12 {s : List UInt8} (h : wordB s = true) : s.length ≤ 12 := by
  unfold wordB at h
  simp only [Bool.and_eq_true, decide_eq_true_eq] at h
  omega
/-- A fraction's text, a span's. -/
def frT (p q : Int) : List UInt8 := if q = 1 then sgT p else (sgT p ++ [47]) ++ dcl q
def spT (p q p' q' : Int) : List UInt8 := (frT p q ++ [46, 46]) ++ frT p' q'
theorem frT_len (p q : Int) : (frT p q).length ≤ 40 := by
  have h1 := sgT_20 p
  have h2 := decT_19 q
  unfold frT
  split
  · omega
  · simp; omega
theorem spT_len (p q p' q' : Int) : (spT p q p' q').length ≤ 82 := by
  have h1 := frT_len p q
  have h2 := frT_len p' q'
  unfold spT
  simp; omega
def s_frT : Spec := fun args S => match args, S with
  | [.agg [.int .i64 p, .int .i64 q]], [] => ⟨smF p q, .str (frT p q), []⟩
  | _, _ => noSpec
def s_frTI : Spec := fun args S => match args, S with
  | [.agg [.int .i64 p, .int .i64 q]], [] => ⟨True, .str (if fOk p q = true then frT p q else []), []⟩
  | _, _ => noSpec
def s_spTI : Spec := fun args S => match args, S with
  | [.agg [.int .i64 p, .int .i64 q, .int .i64 p', .int .i64 q']], [] => ⟨True, .str (if spOk p q p' q' = true then spT p q p' q' else []), []⟩
  | _, _ => noSpec
theorem ok_l01Text : SpecOk Tryz.prog 252 s_frT := by
  intro args S h; unfold s_frT at h ⊢; (split at h <;> first | exact False.elim h | skip)
  dsimp only at h ⊢
  rename_i p q
  obtain ⟨h1, h2, h3⟩ := h
  have l1 := sgT_20 p
  have l2 := decT_19 q
  by_cases hq : q = 1
  · rw [show frT p q = sgT p from if_pos hq]
    refine funW tabOk (E := [(295, s_sgT), (253, s_dcl)]) ⟨ok_sgT, ok_dcl, trivial⟩ [(3, [(5, 0)])] (k := 0) (fn := Tryz.f252) rfl rfl rfl rfl rfl rfl ?_
    (repeat' ((try (conv => whnf)); first | (with_reducible first | refine And.intro ?_ ?_ | refine WX.of ?_) | exact zc | ((with_reducible refine VC.mk ?_); exact zw) | ((with_reducible refine VC.mk ?_); exact ⟨by omega, by omega⟩) | (with_reducible first | refine splitT ?_ | refine splitF ?_) | ((with_reducible refine splitM.mk (fun hsm => ?_) (fun hsm => ?_)) <;> (try exact zx)) | ((with_reducible refine splitB.mk (fun h => ?_) (fun h => ?_)) <;> (try simp only [zs, ne_eq] at h) <;> (try simp (disch := omega) only [w64] at h) <;> (try exact zx)) | (with_reducible intro hz; (try exact absurd hz (Nat.succ_ne_zero _)))))
  · rw [show frT p q = (sgT p ++ [47]) ++ dcl q from if_neg hq]
    refine funW tabOk (E := [(295, s_sgT), (253, s_dcl)]) ⟨ok_sgT, ok_dcl, trivial⟩ [(3, [(5, 0)])] (k := 0) (fn := Tryz.f252) rfl rfl rfl rfl rfl rfl ?_
    (repeat' ((try (conv => whnf)); first | (with_reducible first | refine And.intro ?_ ?_ | refine WX.of ?_) | exact zc | ((with_reducible refine VC.mk ?_); exact zw) | ((with_reducible refine VC.mk ?_); exact ⟨by omega, by omega⟩) | (with_reducible first | refine splitT ?_ | refine splitF ?_) | ((with_reducible refine splitM.mk (fun hsm => ?_) (fun hsm => ?_)) <;> (try exact zx)) | ((with_reducible refine splitB.mk (fun h => ?_) (fun h => ?_)) <;> (try simp only [zs, ne_eq] at h) <;> (try simp (disch := omega) only [w64] at h) <;> (try exact zx)) | (with_reducible intro hz; (try exact absurd hz (Nat.succ_ne_zero _)))))
    all_goals (refine ⟨?_⟩; simp; omega)
theorem ok_FracTextI : SpecOk Tryz.prog 118 s_frTI := by
  intro args S h; unfold s_frTI at h ⊢; (split at h <;> first | exact False.elim h | skip)
  dsimp only at h ⊢
  rename_i p q
  by_cases hf : fOk p q = true
  · rw [if_pos hf]
    obtain ⟨h1, h2, h3⟩ := smF_ok hf
    have l1 := sgT_20 p
    have l2 := sgT_20 q
    by_cases hq : q = 1
    · rw [show frT p q = sgT p from if_pos hq]
      refine funW tabOk (E := [(96, s_fOk), (110, s_sgT)]) ⟨ok_ValidFrac, ok_decI, trivial⟩ [] (k := 0) (fn := Tryz.f118) rfl rfl rfl rfl rfl rfl ?_
      (repeat' ((try (conv => whnf)); first | (with_reducible first | refine And.intro ?_ ?_ | refine WX.of ?_) | exact zc | ((with_reducible refine VC.mk ?_); exact zw) | ((with_reducible refine VC.mk ?_); exact ⟨by omega, by omega⟩) | ((with_reducible refine splitT_of ?_ ?_); (focus (simp only [hf, Bool.not_true, Bool.not_true, Bool.not_false, decide_true, decide_false]; done))) | ((with_reducible refine splitF_of ?_ ?_); (focus (simp only [hf, Bool.not_true, Bool.not_true, Bool.not_false, decide_true, decide_false]; done))) | (with_reducible first | refine splitT ?_ | refine splitF ?_) | ((with_reducible refine splitM.mk (fun hsm => ?_) (fun hsm => ?_)) <;> (try exact zx)) | ((with_reducible refine splitB.mk (fun h => ?_) (fun h => ?_)) <;> (try simp only [zs, ne_eq] at h) <;> (try simp (disch := omega) only [w64] at h) <;> (try exact zx)) | (with_reducible intro hz; (try exact absurd hz (Nat.succ_ne_zero _)))))
    · rw [show frT p q = (sgT p ++ [47]) ++ sgT q from by rw [show sgT q = dcl q from if_neg (by omega)]; exact if_neg hq]
      refine funW tabOk (E := [(96, s_fOk), (110, s_sgT)]) ⟨ok_ValidFrac, ok_decI, trivial⟩ [] (k := 0) (fn := Tryz.f118) rfl rfl rfl rfl rfl rfl ?_
      (repeat' ((try (conv => whnf)); first | (with_reducible first | refine And.intro ?_ ?_ | refine WX.of ?_) | exact zc | ((with_reducible refine VC.mk ?_); exact zw) | ((with_reducible refine VC.mk ?_); exact ⟨by omega, by omega⟩) | ((with_reducible refine splitT_of ?_ ?_); (focus (simp only [hf, Bool.not_true, Bool.not_true, Bool.not_false, decide_true, decide_false]; done))) | ((with_reducible refine splitF_of ?_ ?_); (focus (simp only [hf, Bool.not_true, Bool.not_true, Bool.not_false, decide_true, decide_false]; done))) | (with_reducible first | refine splitT ?_ | refine splitF ?_) | ((with_reducible refine splitM.mk (fun hsm => ?_) (fun hsm => ?_)) <;> (try exact zx)) | ((with_reducible refine splitB.mk (fun h => ?_) (fun h => ?_)) <;> (try simp only [zs, ne_eq] at h) <;> (try simp (disch := omega) only [w64] at h) <;> (try exact zx)) | (with_reducible intro hz; (try exact absurd hz (Nat.succ_ne_zero _)))))
      all_goals (refine ⟨?_⟩; simp; omega)
  · rw [if_neg hf]
    have hf : fOk p q = false := by simpa using hf
    refine funW tabOk (E := [(96, s_fOk), (110, s_sgT)]) ⟨ok_ValidFrac, ok_decI, trivial⟩ [] (k := 0) (fn := Tryz.f118) rfl rfl rfl rfl rfl rfl ?_
    (repeat' ((try (conv => whnf)); first | (with_reducible first | refine And.intro ?_ ?_ | refine WX.of ?_) | exact zc | ((with_reducible refine VC.mk ?_); exact zw) | ((with_reducible refine splitT_of ?_ ?_); (focus (simp only [hf, Bool.not_false, Bool.not_true, Bool.not_false, decide_true, decide_false]; done))) | ((with_reducible refine splitF_of ?_ ?_); (focus (simp only [hf, Bool.not_false, Bool.not_true, Bool.not_false, decide_true, decide_false]; done))) | (with_reducible first | refine splitT ?_ | refine splitF ?_) | ((with_reducible refine splitM.mk (fun hsm => ?_) (fun hsm => ?_)) <;> (try exact zx)) | ((with_reducible refine splitB.mk (fun h => ?_) (fun h => ?_)) <;> (try simp only [zs, ne_eq] at h) <;> (try simp (disch := omega) only [w64] at h) <;> (try exact zx)) | (with_reducible intro hz; (try exact absurd hz (Nat.succ_ne_zero _)))))
theorem ok_SpanTextI : SpecOk Tryz.prog 140 s_spTI := by
  intro args S h; unfold s_spTI at h ⊢; (split at h <;> first | exact False.elim h | skip)
  dsimp only at h ⊢
  rename_i p q p' q'
  by_cases hf : spOk p q p' q' = true
  · rw [if_pos hf]
    obtain ⟨h1, h2, h3⟩ := spOk_iff.1 hf
    have l1 := frT_len p q
    have l2 := frT_len p' q'
    refine funW tabOk (E := [(64, s_vSpan), (118, s_frTI)]) ⟨ok_ValidSpan, ok_FracTextI, trivial⟩ [(3, [(5, 0)])] (k := 0) (fn := Tryz.f140) rfl rfl rfl rfl rfl rfl ?_
    (repeat' ((try (conv => whnf)); first | (with_reducible first | refine And.intro ?_ ?_ | refine WX.of ?_) | exact zc | ((with_reducible refine VC.mk ?_); exact zw) | ((with_reducible refine splitT_of ?_ ?_); (focus (simp only [hf, Bool.not_true, Bool.not_true, Bool.not_false, decide_true, decide_false]; done))) | ((with_reducible refine splitF_of ?_ ?_); (focus (simp only [hf, Bool.not_true, Bool.not_true, Bool.not_false, decide_true, decide_false]; done))) | (with_reducible first | refine splitT ?_ | refine splitF ?_) | ((with_reducible refine splitM.mk (fun hsm => ?_) (fun hsm => ?_)) <;> (try exact zx)) | ((with_reducible refine splitB.mk (fun h => ?_) (fun h => ?_)) <;> (try simp only [zs, ne_eq] at h) <;> (try simp (disch := omega) only [w64] at h) <;> (try exact zx)) | (with_reducible intro hz; (try exact absurd hz (Nat.succ_ne_zero _)))))
    all_goals (refine ⟨?_⟩; simp only [h1, h2, if_true]; first | rfl | (simp; omega))
  · rw [if_neg hf]
    have hf : spOk p q p' q' = false := by simpa using hf
    refine funW tabOk (E := [(64, s_vSpan), (118, s_frTI)]) ⟨ok_ValidSpan, ok_FracTextI, trivial⟩ [(3, [(5, 0)])] (k := 0) (fn := Tryz.f140) rfl rfl rfl rfl rfl rfl ?_
    (repeat' ((try (conv => whnf)); first | (with_reducible first | refine And.intro ?_ ?_ | refine WX.of ?_) | exact zc | ((with_reducible refine VC.mk ?_); exact zw) | ((with_reducible refine splitT_of ?_ ?_); (focus (simp only [hf, Bool.not_false, Bool.not_true, Bool.not_false, decide_true, decide_false]; done))) | ((with_reducible refine splitF_of ?_ ?_); (focus (simp only [hf, Bool.not_false, Bool.not_true, Bool.not_false, decide_true, decide_false]; done))) | (with_reducible first | refine splitT ?_ | refine splitF ?_) | ((with_reducible refine splitM.mk (fun hsm => ?_) (fun hsm => ?_)) <;> (try exact zx)) | ((with_reducible refine splitB.mk (fun h => ?_) (fun h => ?_)) <;> (try simp only [zs, ne_eq] at h) <;> (try simp (disch := omega) only [w64] at h) <;> (try exact zx)) | (with_reducible intro hz; (try exact absurd hz (Nat.succ_ne_zero _)))))
end Go.Proofs.YtamachahlhlhlaaGreatDoor.Eng
set_option linter.unusedVariables false
set_option linter.unusedSimpArgs false
namespace Go.Proofs.YtamachahlhlhlaaGreatDoor.Eng
open Go Go.RowKit
set_option maxRecDepth 100000
theorem decT_num : ∀ (k : Nat) (s : List UInt8) (n : Int), s ≠ [] → s.length ≤ k + 1 → ¬ (s[0]? = some 48 ∧ 1 < s.length) → digR 0 s = some n → (0 ≤ n ∧ n < 10 ^ s.length) ∧ (s[0]? ≠ some 48 → 1 ≤ n) ∧ decT k n = s := by
  intro k
  induction k with
  | zero =>
    intro s n h0 hl hz hd
    match s, h0, hl with
    | [x], _, _ =>
      simp only [digR] at hd
      split at hd
      · cases hd
      · rename_i hx
        injection hd with hd
        subst hd
        refine ⟨⟨by omega, by simp; omega⟩, fun h => ?_, ?_⟩
        · have : x.toNat ≠ 48 := fun e => h (by simp; exact UInt8.toNat_inj.1 e)
          omega
        · simp only [decT]
          rw [show (48 + (10 * 0 + ((x.toNat : Int) - 48)) % 10).toNat = x.toNat by omega, UInt8.ofNat_toNat]
  | succ k ih =>
    intro s n h0 hl hz hd
    obtain ⟨a, x, rfl⟩ : ∃ a x, s = a ++ [x] := ⟨s.dropLast, s.getLast h0, (List.dropLast_concat_getLast h0).symm⟩
    rw [digR_app] at hd
    cases e : digR 0 a with
    | none => rw [e] at hd; cases hd
    | some m =>
      rw [e] at hd
      simp only [Option.bind_some, digR] at hd
      split at hd
      · cases hd
      · rename_i hx
        injection hd with hd
        subst hd
        by_cases ha : a = []
        · subst ha
          simp only [digR, Option.some.injEq] at e
          subst e
          refine ⟨⟨by omega, by simp; omega⟩, fun h => ?_, ?_⟩
          · have : x.toNat ≠ 48 := fun e => h (by simp; exact UInt8.toNat_inj.1 e)
            omega
          · simp only [decT]
            rw [if_pos (by omega), show (48 + (10 * 0 + ((x.toNat : Int) - 48)) % 10).toNat = x.toNat by omega, UInt8.ofNat_toNat]
            rfl
        · have hla : 1 ≤ a.length := by
            cases a with
            | nil => exact absurd rfl ha
            | cons => simp
          have h00 : (a ++ [x])[0]? = a[0]? := List.getElem?_append_left hla
          rw [h00] at hz ⊢
          have hz1 : a[0]? ≠ some 48 := fun h => hz ⟨h, by simp; omega⟩
          obtain ⟨⟨g1, g2⟩, g3, g4⟩ := ih a m ha (by simp at hl; omega) (fun h => hz1 h.1) e
          have g3 := g3 hz1
          refine ⟨⟨by omega, ?_⟩, fun _ => by omega, ?_⟩
          · rw [List.length_append, List.length_singleton, Int.pow_succ]
            omega
          · simp only [decT]
            rw [if_neg (by omega), show (10 * m + ((x.toNat : Int) - 48)) / 10 = m by omega, g4, show (48 + (10 * m + ((x.toNat : Int) - 48)) % 10).toNat = x.toNat by omega, UInt8.ofNat_toNat]
theorem numR_to {s : List UInt8} {n : Int} (h : numR s = some n) : dcl n = s ∧ 0 ≤ n ∧ n < 10000000000 := by
  unfold numR at h
  split at h
  · cases h
  · rename_i hc
    have h1 : s ≠ [] := fun e => hc (.inl e)
    have h2 : s.length ≤ 10 := by
      rcases Nat.lt_or_ge 10 s.length with h2 | h2
      · exact absurd (.inr (.inl h2)) hc
      · exact h2
    obtain ⟨⟨g1, g2⟩, _, g3⟩ := decT_num 18 s n h1 (by omega) (fun e => hc (.inr (.inr e))) h
    have : (10 : Nat) ^ s.length ≤ 10 ^ 10 := Nat.pow_le_pow_right (by decide) h2
    have e : ((10 ^ s.length : Nat) : Int) = (10 : Int) ^ s.length := by simp
    refine ⟨g3, g1, ?_⟩
    rw [← e] at g2
    omega
theorem sgnR_to {s : List UInt8} {n : Int} (h : sgnR s = some n) : sgT n = s ∧ -10000000000 < n ∧ n < 10000000000 := by
  unfold sgnR at h
  split at h
  · rename_i r
    cases e : numR r with
    | none => rw [e] at h; cases h
    | some m =>
      rw [e] at h
      simp only [Option.bind_some] at h
      split at h
      · rename_i hm
        injection h with h
        subst h
        obtain ⟨g1, g2, g3⟩ := numR_to e
        refine ⟨?_, by omega, by omega⟩
        unfold sgT
        rw [if_pos (by omega), Int.neg_neg, g1]
      · cases h
  · obtain ⟨g1, g2, g3⟩ := numR_to h
    refine ⟨?_, by omega, by omega⟩
    unfold sgT
    rw [if_neg (by omega), g1]
theorem numR_b (s : List UInt8) : 0 ≤ (numR s).getD 0 ∧ (numR s).getD 0 < 10000000000 := by
  cases e : numR s with
  | none => simp
  | some n => exact (numR_to e).2
theorem splL_cons {c : UInt8} {t a : List UInt8} {r : List (List UInt8)} (h : splL c t = a :: r) : c ∉ a ∧ ((r = [] ∧ t = a) ∨ ∃ t', t = a ++ c :: t' ∧ splL c t' = r) := by
  rcases spl_cases c t with h1 | ⟨a', b, rfl, h1⟩
  · rw [splL_no h1] at h
    injection h with h2 h3
    subst h2
    exact ⟨h1, .inl ⟨h3.symm, rfl⟩⟩
  · rw [splL_app h1] at h
    injection h with h2 h3
    subst h2
    exact ⟨h1, .inr ⟨b, rfl, h3⟩⟩
/-- A fraction read; what is answered beside a 'no'. -/
def frR (t : List UInt8) : Option (Int × Int) := match splL 47 t with
  | [a] => (sgnR a).bind fun p => if fOk p 1 = true then some (p, 1) else none
  | [a, b] => (sgnR a).bind fun p => (numR b).bind fun q => if q ≠ 1 ∧ fOk p q = true then some (p, q) else none
  | _ => none
def frJ (t : List UInt8) : Int × Int := match splL 47 t with
  | [a] => ((sgnR a).getD 0, 1)
  | [a, b] => ((sgnR a).getD 0, (numR b).getD 0)
  | _ => (0, 0)
theorem frJ_eq {t : List UInt8} {x : Int × Int} (h : frR t = some x) : frJ t = x := by
  unfold frR at h; unfold frJ
  split at h
  · rename_i a e
    cases e1 : sgnR a with
    | none => rw [e1] at h; cases h
    | some p =>
      rw [e1] at h
      simp only [Option.bind_some] at h
      split at h
      · injection h with h
      · cases h
  · rename_i a b e
    cases e1 : sgnR a with
    | none => rw [e1] at h; cases h
    | some p =>
      cases e2 : numR b with
      | none => rw [e1, e2] at h; cases h
      | some q =>
        rw [e1, e2] at h
        simp only [Option.bind_some] at h
        split at h
        · injection h with h
        · cases h
  · cases h
theorem sgT_bf {p q : Int} (h : fOk p q = true) : ∀ x ∈ sgT p, dgB x ∨ x = 45 := by
  rw [fOk_iff] at h
  exact sgT_b (by omega) (by omega)
theorem dcl_bf {p q : Int} (h : fOk p q = true) : ∀ x ∈ dcl q, dgB x := by
  rw [fOk_iff] at h
  exact dcl_b (by omega) (by omega)
theorem frT_b {p q : Int} (h : fOk p q = true) : ∀ x ∈ frT p q, dgB x ∨ x = 45 ∨ x = 47 := by
  intro x hx
  unfold frT at hx
  split at hx
  · rcases sgT_bf h x hx with h1 | h1
    · exact .inl h1
    · exact .inr (.inl h1)
  · rcases List.mem_append.1 hx with hx | hx
    · rcases List.mem_append.1 hx with hx | hx
      · rcases sgT_bf h x hx with h1 | h1
        · exact .inl h1
        · exact .inr (.inl h1)
      · exact .inr (.inr (by simpa using hx))
    · exact .inl (dcl_bf h x hx)
theorem frT_no {p q : Int} (h : fOk p q = true) {c : UInt8} (hc : c.toNat < 45 ∨ c.toNat = 46 ∨ 57 < c.toNat) : c ∉ frT p q := fun hm => by
  rcases frT_b h c hm with h1 | h1 | h1
  · unfold dgB at h1; omega
  · subst h1; exact absurd hc (by decide)
  · subst h1; exact absurd hc (by decide)
theorem sgT_no {p q : Int} (h : fOk p q = true) {c : UInt8} (hc : c.toNat < 45 ∨ (45 < c.toNat ∧ c.toNat < 48) ∨ 57 < c.toNat) : c ∉ sgT p := fun hm => by
  rcases sgT_bf h c hm with h1 | h1
  · unfold dgB at h1; omega
  · subst h1; exact absurd hc (by decide)
theorem dcl_no {p q : Int} (h : fOk p q = true) {c : UInt8} (hc : c.toNat < 48 ∨ 57 < c.toNat) : c ∉ dcl q := fun hm => by
  have h1 := dcl_bf h c hm
  unfold dgB at h1; omega
theorem sgT_ne (n : Int) : sgT n ≠ [] := by
  unfold sgT
  split
  · simp
  · exact decT_ne _ _
theorem frT_ne (p q : Int) : frT p q ≠ [] := by
  unfold frT
  split
  · exact sgT_ne _
  · simp
theorem fr_of {p q : Int} (h : fOk p q = true) : frR (frT p q) = some (p, q) := by
  have h1 := fOk_iff.1 h
  unfold frT
  by_cases hq : q = 1
  · rw [if_pos hq]
    subst hq
    unfold frR
    rw [splL_no (sgT_no h (by decide))]
    simp only
    rw [sgnR_sgT (by omega) (by omega)]
    simp only [Option.bind_some]
    rw [if_pos h]
  · rw [if_neg hq]
    unfold frR
    rw [List.append_assoc, List.singleton_append, splL_app (sgT_no h (by decide)), splL_no (dcl_no h (by decide))]
    simp only
    rw [sgnR_sgT (by omega) (by omega), numR_dcl (by omega) (by omega)]
    simp only [Option.bind_some]
    rw [if_pos ⟨hq, h⟩]
theorem fr_to {t : List UInt8} {p q : Int} (h : frR t = some (p, q)) : fOk p q = true ∧ frT p q = t := by
  unfold frR at h
  split at h
  · rename_i a e
    cases e1 : sgnR a with
    | none => rw [e1] at h; cases h
    | some p' =>
      rw [e1] at h
      simp only [Option.bind_some] at h
      split at h
      · rename_i hf
        injection h with h
        injection h with h2 h3
        subst h2; subst h3
        refine ⟨hf, ?_⟩
        rcases (splL_cons e).2 with ⟨_, rfl⟩ | ⟨t', _, h'⟩
        · unfold frT
          rw [if_pos rfl, (sgnR_to e1).1]
        · exact absurd h' (splL_ne _ _)
      · cases h
  · rename_i a b e
    cases e1 : sgnR a with
    | none => rw [e1] at h; cases h
    | some p' =>
      cases e2 : numR b with
      | none => rw [e1, e2] at h; cases h
      | some q' =>
        rw [e1, e2] at h
        simp only [Option.bind_some] at h
        split at h
        · rename_i hf
          injection h with h
          injection h with h2 h3
          subst h2; subst h3
          refine ⟨hf.2, ?_⟩
          rcases (splL_cons e).2 with ⟨h', _⟩ | ⟨t', rfl, h'⟩
          · cases h'
          · rcases (splL_cons h').2 with ⟨_, rfl⟩ | ⟨t', _, h'⟩
            · unfold frT
              rw [if_neg hf.1, (sgnR_to e1).1, (numR_to e2).1, List.append_assoc]; rfl
            · exact absurd h' (splL_ne _ _)
        · cases h
  · cases h
theorem frR_iff {t : List UInt8} {p q : Int} : frR t = some (p, q) ↔ fOk p q = true ∧ frT p q = t := ⟨fr_to, fun h => by rw [← h.2]; exact fr_of h.1⟩
/-- Up to the first dot. -/
def dtw (t : List UInt8) : List UInt8 := t.takeWhile (· != 46)
theorem dtw_at : ∀ {t : List UInt8} {i : Nat}, (∀ j, j < i → t[j]? ≠ some 46) → t[i]? = some 46 → dtw t = t.take i
  | [], i, _, h => by simp at h
  | x :: t, 0, _, h => by
    simp at h; subst h; rfl
  | x :: t, i + 1, h1, h2 => by
    have hx : x ≠ 46 := fun e => h1 0 (by omega) (by simp [e])
    have := dtw_at (t := t) (i := i) (fun j hj => by simpa using h1 (j + 1) (by omega)) (by simpa using h2)
    unfold dtw at this ⊢
    rw [List.takeWhile_cons, if_pos (by simpa using hx), this]; rfl
theorem dtw_len : ∀ {t : List UInt8} {i : Nat}, (∀ j, j < i → t[j]? ≠ some 46) → i ≤ t.length → i ≤ (dtw t).length
  | t, 0, _, _ => Nat.zero_le _
  | [], i + 1, _, h => by simp at h
  | x :: t, i + 1, h1, h2 => by
    have hx : x ≠ 46 := fun e => h1 0 (by omega) (by simp [e])
    have := dtw_len (t := t) (i := i) (fun j hj => by simpa using h1 (j + 1) (by omega)) (by simpa using h2)
    unfold dtw at this ⊢
    rw [List.takeWhile_cons, if_pos (by simpa using hx)]
    simpa using this
theorem dtw_app {a b : List UInt8} (h : (46 : UInt8) ∉ a) : dtw (a ++ 46 :: b) = a := by
  rw [dtw_at (i := a.length)]
  · simp
  · intro j hj hh
    rw [List.getElem?_append_left hj] at hh
    exact h (List.mem_of_getElem? hh)
  · rw [List.getElem?_append_right (Nat.le_refl _)]; simp
theorem dtw_dot : ∀ {t : List UInt8}, (dtw t).length < t.length → t[(dtw t).length]? = some 46
  | [], h => by simp at h
  | x :: t, h => by
    by_cases hx : x = 46
    · subst hx; rfl
    · have e : dtw (x :: t) = x :: dtw t := by
        unfold dtw
        rw [List.takeWhile_cons, if_pos (by simpa using hx)]
      rw [e] at h ⊢
      simpa using dtw_dot (t := t) (by simpa using h)
def spnR (t : List UInt8) : Option ((Int × Int) × (Int × Int)) :=
  if (dtw t).length + 1 < t.length ∧ t[(dtw t).length + 1]? = some 46 then (frR (dtw t)).bind fun a => (frR (t.drop ((dtw t).length + 2))).bind fun b => if spOk a.1 a.2 b.1 b.2 = true then some (a, b) else none else none
def spnJ (t : List UInt8) : (Int × Int) × (Int × Int) := if (dtw t).length + 1 < t.length then (frJ (dtw t), frJ (t.drop ((dtw t).length + 2))) else ((0, 0), (0, 0))
theorem spJ_eq {t : List UInt8} {x : (Int × Int) × (Int × Int)} (h : spnR t = some x) : spnJ t = x := by
  unfold spnR at h; unfold spnJ
  split at h
  · rename_i hc
    rw [if_pos hc.1]
    cases e1 : frR (dtw t) with
    | none => rw [e1] at h; cases h
    | some a =>
      cases e2 : frR (t.drop ((dtw t).length + 2)) with
      | none => rw [e1, e2] at h; cases h
      | some b =>
        rw [e1, e2] at h
        simp only [Option.bind_some] at h
        split at h
        · injection h with h
          rw [frJ_eq e1, frJ_eq e2, h]
        · cases h
  · cases h
theorem sp_to {t : List UInt8} {p q p' q' : Int} (h : spnR t = some ((p, q), (p', q'))) : spOk p q p' q' = true ∧ spT p q p' q' = t := by
  unfold spnR at h
  split at h
  · rename_i hc
    cases e1 : frR (dtw t) with
    | none => rw [e1] at h; cases h
    | some a =>
      cases e2 : frR (t.drop ((dtw t).length + 2)) with
      | none => rw [e1, e2] at h; cases h
      | some b =>
        rw [e1, e2] at h
        simp only [Option.bind_some] at h
        split at h
        · rename_i hs
          injection h with h
          injection h with h1 h2
          subst h1; subst h2
          refine ⟨hs, ?_⟩
          obtain ⟨_, g1⟩ := fr_to e1
          obtain ⟨_, g2⟩ := fr_to e2
          have hp : dtw t <+: t := List.takeWhile_prefix _
          have ht : t.take (dtw t).length = dtw t := (List.prefix_iff_eq_take.1 hp).symm
          have hd : t[(dtw t).length]? = some 46 := dtw_dot (by omega)
          unfold spT
          rw [g1, g2]
          have e : t = t.take (dtw t).length ++ t.drop (dtw t).length := (List.take_append_drop _ _).symm
          have hl1 : (dtw t).length < t.length := by omega
          have d1 : t.drop (dtw t).length = 46 :: 46 :: t.drop ((dtw t).length + 2) := by
            rw [List.drop_eq_getElem_cons hl1, List.drop_eq_getElem_cons hc.1]
            have a1 := hd
            have a2 := hc.2
            rw [List.getElem?_eq_getElem hl1] at a1
            rw [List.getElem?_eq_getElem hc.1] at a2
            injection a1 with a1
            injection a2 with a2
            rw [a1, a2]
          conv => rhs; rw [e, ht, d1]
          simp
        · cases h
  · cases h
theorem sp_of {p q p' q' : Int} (h : spOk p q p' q' = true) : spnR (spT p q p' q') = some ((p, q), (p', q')) := by
  obtain ⟨h1, h2, h3⟩ := spOk_iff.1 h
  have e : spT p q p' q' = frT p q ++ 46 :: 46 :: frT p' q' := by simp [spT]
  have e1 : dtw (spT p q p' q') = frT p q := by rw [e]; exact dtw_app (frT_no h1 (by decide))
  have hl := frT_ne p' q'
  unfold spnR
  rw [e1, e, if_pos ⟨by simp, by rw [List.getElem?_append_right (by omega)]; simp⟩, fr_of h1]
  have e2 : (frT p q ++ 46 :: 46 :: frT p' q').drop ((frT p q).length + 2) = frT p' q' := by
    rw [List.drop_append]; simp
  rw [e2, fr_of h2]
  simp only [Option.bind_some]
  rw [if_pos h]
theorem spnR_iff {t : List UInt8} {p q p' q' : Int} : spnR t = some ((p, q), (p', q')) ↔ spOk p q p' q' = true ∧ spT p q p' q' = t := ⟨sp_to, fun h => by rw [← h.2]; exact sp_of h.1⟩
end Go.Proofs.YtamachahlhlhlaaGreatDoor.Eng
set_option linter.unusedVariables false
set_option linter.unusedSimpArgs false
namespace Go.Proofs.YtamachahlhlhlaaGreatDoor.Eng
open Go Go.RowKit
set_option maxRecDepth 100000
theorem cut_1 {c : UInt8} {a b : List UInt8} (h : c ∉ a) : Lib.cut (a ++ c :: b) [c] = (a, b, true) := by
  unfold Lib.cut
  rw [ix_app h, if_pos (by omega), Int.toNat_natCast]
  have e2 : (a ++ c :: b).drop (a.length + [c].length) = b := by rw [List.drop_append]; simp
  rw [e2]; simp
theorem cut_0 {c : UInt8} {a : List UInt8} (h : c ∉ a) : Lib.cut a [c] = (a, [], false) := by
  unfold Lib.cut
  rw [ix_no h, if_neg (by decide)]
theorem ix_2 {c : UInt8} : ∀ {a b : List UInt8}, c ∉ a → Lib.index (a ++ c :: c :: b) [c, c] = a.length
  | [], b, _ => by
    simp only [List.nil_append]
    unfold Lib.index
    rw [if_pos (by simp [List.isPrefixOf])]
    rfl
  | x :: a, b, h => by
    have h1 : ¬ c = x := fun e => h (by rw [e]; exact List.mem_cons_self)
    have h2 := ix_2 (c := c) (a := a) (b := b) fun e => h (List.mem_cons_of_mem _ e)
    simp only [List.cons_append]
    unfold Lib.index
    rw [if_neg (by simp [List.isPrefixOf, h1]), h2, if_neg (by simp)]
    simp
theorem cut_2 {c : UInt8} {a b : List UInt8} (h : c ∉ a) : Lib.cut (a ++ c :: c :: b) [c, c] = (a, b, true) := by
  unfold Lib.cut
  rw [ix_2 h, if_pos (by omega), Int.toNat_natCast]
  have e2 : (a ++ c :: c :: b).drop (a.length + [c, c].length) = b := by rw [List.drop_append]; simp
  rw [e2]; simp
theorem cut_len (s p : List UInt8) : (Lib.cut s p).1.length ≤ s.length ∧ (Lib.cut s p).2.1.length ≤ s.length := by
  unfold Lib.cut
  split
  · simp only [List.length_take, List.length_drop]
    omega
  · simp
def frO (t : List UInt8) : Int × Int := (nmb (Lib.cut t [47]).1, if (Lib.cut t [47]).2.2 = true then nmb (Lib.cut t [47]).2.1 else 1)
def frP (t : List UInt8) : Option (Int × Int) := if t ≠ [] ∧ (if fOk (frO t).1 (frO t).2 = true then frT (frO t).1 (frO t).2 else []) = t then some (frO t) else none
theorem frO_T {p q : Int} (h : fOk p q = true) : frO (frT p q) = (p, q) := by
  have h1 := fOk_iff.1 h
  unfold frT
  by_cases hq : q = 1
  · rw [if_pos hq]
    unfold frO
    rw [cut_0 (sgT_no h (by decide))]
    simp only
    rw [nmb_sgT (by omega) (by omega), hq]; rfl
  · rw [if_neg hq, List.append_assoc, List.singleton_append]
    unfold frO
    rw [cut_1 (sgT_no h (by decide))]
    simp only
    have e : nmb (dcl q) = q := by
      have := nmb_sgT (n := q) (by omega) (by omega)
      rwa [show sgT q = dcl q from if_neg (by omega)] at this
    rw [nmb_sgT (by omega) (by omega), e]; rfl
theorem frP_of {p q : Int} (h : fOk p q = true) : frP (frT p q) = some (p, q) := by
  unfold frP
  rw [frO_T h, if_pos ⟨frT_ne p q, by simp only; rw [if_pos h]⟩]
theorem frP_to {t : List UInt8} {p q : Int} (h : frP t = some (p, q)) : fOk p q = true ∧ frT p q = t := by
  unfold frP at h
  by_cases hc : t ≠ [] ∧ (if fOk (frO t).1 (frO t).2 = true then frT (frO t).1 (frO t).2 else []) = t
  · rw [if_pos hc] at h
    injection h with h
    rw [h] at hc
    simp only at hc
    by_cases hf : fOk p q = true
    · rw [if_pos hf] at hc; exact ⟨hf, hc.2⟩
    · rw [if_neg hf] at hc; exact absurd hc.2.symm hc.1
  · rw [if_neg hc] at h; cases h
theorem opt_eq {α β : Type} {f g : α → Option β} (h : ∀ t x, f t = some x ↔ g t = some x) (t : α) : f t = g t := by
  cases e : f t with
  | some x => exact ((h t x).1 e).symm
  | none =>
    cases e2 : g t with
    | none => rfl
    | some x => rw [(h t x).2 e2] at e; cases e
theorem fr_same (t : List UInt8) : frP t = frR t := opt_eq (fun t ⟨p, q⟩ => ⟨fun h => frR_iff.2 (frP_to h), fun h => by rw [← (frR_iff.1 h).2]; exact frP_of (frR_iff.1 h).1⟩) t
def spQ (t : List UInt8) : (Int × Int) × (Int × Int) := ((frP (Lib.cut t [46, 46]).1).getD (0, 0), (frP (Lib.cut t [46, 46]).2.1).getD (0, 0))
def spnP (t : List UInt8) : Option ((Int × Int) × (Int × Int)) := if ((frP (Lib.cut t [46, 46]).1).isSome = true ∧ (frP (Lib.cut t [46, 46]).2.1).isSome = true) ∧ (if spOk (spQ t).1.1 (spQ t).1.2 (spQ t).2.1 (spQ t).2.2 = true then spT (spQ t).1.1 (spQ t).1.2 (spQ t).2.1 (spQ t).2.2 else []) = t then some (spQ t) else none
theorem spP_of {p q p' q' : Int} (h : spOk p q p' q' = true) : spnP (spT p q p' q') = some ((p, q), (p', q')) := by
  obtain ⟨h1, h2, h3⟩ := spOk_iff.1 h
  have e : Lib.cut (spT p q p' q') [46, 46] = (frT p q, frT p' q', true) := by
    rw [show spT p q p' q' = frT p q ++ 46 :: 46 :: frT p' q' by simp [spT]]
    exact cut_2 (frT_no h1 (by decide))
  have eo : spQ (spT p q p' q') = ((p, q), (p', q')) := by
    unfold spQ
    rw [e]
    simp only
    rw [frP_of h1, frP_of h2]; rfl
  unfold spnP
  rw [eo, e]
  simp only
  rw [frP_of h1, frP_of h2, if_pos ⟨⟨rfl, rfl⟩, if_pos h⟩]
theorem spP_to {t : List UInt8} {p q p' q' : Int} (h : spnP t = some ((p, q), (p', q'))) : spOk p q p' q' = true ∧ spT p q p' q' = t := by
  unfold spnP at h
  by_cases hc : ((frP (Lib.cut t [46, 46]).1).isSome = true ∧ (frP (Lib.cut t [46, 46]).2.1).isSome = true) ∧ (if spOk (spQ t).1.1 (spQ t).1.2 (spQ t).2.1 (spQ t).2.2 = true then spT (spQ t).1.1 (spQ t).1.2 (spQ t).2.1 (spQ t).2.2 else []) = t
  · rw [if_pos hc] at h
    injection h with h
    rw [h] at hc
    simp only at hc
    by_cases hf : spOk p q p' q' = true
    · rw [if_pos hf] at hc; exact ⟨hf, hc.2⟩
    · rw [if_neg hf] at hc
      obtain ⟨⟨g1, g2⟩, g3⟩ := hc
      rw [← g3] at g1
      rw [show (Lib.cut [] [46, 46]).1 = [] from rfl, show frP [] = none from if_neg fun hh => hh.1 rfl] at g1
      cases g1
  · rw [if_neg hc] at h; cases h
theorem sp_same (t : List UInt8) : spnP t = spnR t := opt_eq (fun t ⟨⟨p, q⟩, p', q'⟩ => ⟨fun h => spnR_iff.2 (spP_to h), fun h => by rw [← (spnR_iff.1 h).2]; exact spP_of (spnR_iff.1 h).1⟩) t
end Go.Proofs.YtamachahlhlhlaaGreatDoor.Eng
set_option linter.unusedVariables false
set_option linter.unusedSimpArgs false
namespace Go.Proofs.YtamachahlhlhlaaGreatDoor.Eng
open Go Go.RowKit
set_option maxRecDepth 100000
end Go.Proofs.YtamachahlhlhlaaGreatDoor.Eng
set_option linter.unusedVariables false
set_option linter.unusedSimpArgs false
namespace Go.Proofs.YtamachahlhlhlaaGreatDoor.Eng
open Go Go.RowKit
set_option maxRecDepth 100000
end Go.Proofs.YtamachahlhlhlaaGreatDoor.Eng
set_option linter.unusedVariables false
set_option linter.unusedSimpArgs false
namespace Go.Proofs.YtamachahlhlhlaaGreatDoor.Eng
open Go Go.RowKit
set_option maxRecDepth 100000
/-- Fractions that may fail. -/
abbrev FrT : Type := Int × Int
def tv (o : Option FrT) : FrT := o.getD (0, 1)
end Go.Proofs.YtamachahlhlhlaaGreatDoor.Eng
set_option linter.unusedVariables false
set_option linter.unusedSimpArgs false
namespace Go.Proofs.YtamachahlhlhlaaGreatDoor.Eng
open Go Go.RowKit
set_option maxRecDepth 100000
end Go.Proofs.YtamachahlhlhlaaGreatDoor.Eng
set_option linter.unusedVariables false
set_option linter.unusedSimpArgs false
namespace Go.Proofs.YtamachahlhlhlaaGreatDoor.Eng
open Go Go.RowKit
set_option maxRecDepth 100000
/-- Two fractions that may fail. -/
def z2 (o : Option (FrT × FrT)) : FrT × FrT := o.getD ((0, 0), (0, 0))
end Go.Proofs.YtamachahlhlhlaaGreatDoor.Eng
set_option linter.unusedVariables false
set_option linter.unusedSimpArgs false
namespace Go.Proofs.YtamachahlhlhlaaGreatDoor.Eng
open Go Go.RowKit
set_option maxRecDepth 100000
end Go.Proofs.YtamachahlhlhlaaGreatDoor.Eng
set_option linter.unusedVariables false
set_option linter.unusedSimpArgs false
namespace Go.Proofs.YtamachahlhlhlaaGreatDoor.Eng
open Go Go.RowKit
set_option maxRecDepth 100000
end Go.Proofs.YtamachahlhlhlaaGreatDoor.Eng
set_option linter.unusedVariables false
set_option linter.unusedSimpArgs false
namespace Go.Proofs.YtamachahlhlhlaaGreatDoor.Eng
open Go Go.RowKit
set_option maxRecDepth 100000
end Go.Proofs.YtamachahlhlhlaaGreatDoor.Eng
set_option linter.unusedVariables false
set_option linter.unusedSimpArgs false
namespace Go.Proofs.YtamachahlhlhlaaGreatDoor.Eng
open Go Go.RowKit
set_option maxRecDepth 100000
end Go.Proofs.YtamachahlhlhlaaGreatDoor.Eng
set_option linter.unusedVariables false
set_option linter.unusedSimpArgs false
namespace Go.Proofs.YtamachahlhlhlaaGreatDoor.Eng
open Go Go.RowKit
set_option maxRecDepth 100000
end Go.Proofs.YtamachahlhlhlaaGreatDoor.Eng
set_option linter.unusedVariables false
set_option linter.unusedSimpArgs false
namespace Go.Proofs.YtamachahlhlhlaaGreatDoor.Eng
open Go Go.RowKit
set_option maxRecDepth 100000
end Go.Proofs.YtamachahlhlhlaaGreatDoor.Eng
set_option linter.unusedVariables false
set_option linter.unusedSimpArgs false
namespace Go.Proofs.YtamachahlhlhlaaGreatDoor.Eng
open Go Go.RowKit
set_option maxRecDepth 100000
end Go.Proofs.YtamachahlhlhlaaGreatDoor.Eng
set_option linter.unusedVariables false
set_option linter.unusedSimpArgs false
namespace Go.Proofs.YtamachahlhlhlaaGreatDoor.Eng
open Go Go.RowKit
set_option maxRecDepth 100000
end Go.Proofs.YtamachahlhlhlaaGreatDoor.Eng
set_option linter.unusedVariables false
set_option linter.unusedSimpArgs false
namespace Go.Proofs.YtamachahlhlhlaaGreatDoor.Eng
open Go Go.RowKit
set_option maxRecDepth 100000
end Go.Proofs.YtamachahlhlhlaaGreatDoor.Eng
set_option linter.unusedVariables false
set_option linter.unusedSimpArgs false
namespace Go.Proofs.YtamachahlhlhlaaGreatDoor.Eng
open Go Go.RowKit
set_option maxRecDepth 100000
def rpL (wp wq sp sq fp fq kp kq lp lq : Int) : List (Int × Int) := [(wp, wq), (sp, sq), (fp, fq), (kp, kq), (lp, lq)]
structure RpOk (i wp wq sp sq fp fq kp kq lp lq ap aq zp zq : Int) : Prop where
  i : 0 ≤ i ∧ i ≤ 9
  w : fOk wp wq = true
  s : fOk sp sq = true
  f : fOk fp fq = true
  k : fOk kp kq = true
  l : fOk lp lq = true
  o : spOk ap aq zp zq = true
  all : allF (rpL wp wq sp sq fp fq kp kq lp lq) = true
end Go.Proofs.YtamachahlhlhlaaGreatDoor.Eng
set_option linter.unusedVariables false
set_option linter.unusedSimpArgs false
namespace Go.Proofs.YtamachahlhlhlaaGreatDoor.Eng
open Go Go.RowKit
set_option maxRecDepth 100000
def numJ (t : List UInt8) : Int := (numR t).getD 0
def frD (t : List UInt8) : Int × Int := (frR t).getD (0, 0)
def spnD (t : List UInt8) : (Int × Int) × (Int × Int) := (spnR t).getD ((0, 0), (0, 0))
theorem numJ_dcl {n : Int} (h0 : 0 ≤ n) (h1 : n < 10000000000) : numJ (dcl n) = n := by unfold numJ; rw [numR_dcl h0 h1]; rfl
theorem nmb_dcl {n : Int} (h0 : 0 ≤ n) (h1 : n ≤ 9223372036854775807) : nmb (dcl n) = n := by
  have := nmb_sgT (n := n) (by omega) h1
  rwa [show sgT n = dcl n from if_neg (by omega)] at this
end Go.Proofs.YtamachahlhlhlaaGreatDoor.Eng
set_option linter.unusedVariables false
set_option linter.unusedSimpArgs false
namespace Go.Proofs.YtamachahlhlhlaaGreatDoor.Eng
open Go Go.RowKit
set_option maxRecDepth 100000
abbrev SpT : Type := (Int × Int) × Int × Int
def spB (s : SpT) : Bool := spOk s.1.1 s.1.2 s.2.1 s.2.2
end Go.Proofs.YtamachahlhlhlaaGreatDoor.Eng
set_option linter.unusedVariables false
set_option linter.unusedSimpArgs false
namespace Go.Proofs.YtamachahlhlhlaaGreatDoor.Eng
open Go Go.RowKit
set_option maxRecDepth 100000
/-- A standard; a chain of them. -/
abbrev StT : Type := List UInt8 × Int × SpT × FrT × (Int × Int)
def stD : StT := ([], 0, ((0, 0), 0, 0), (0, 0), 0, 0)
def gdB (x : StT) (d : Int) : Bool := decide (x.2.2.2.2.1 ≤ d ∧ d ≤ x.2.2.2.2.1 + x.2.2.2.2.2)
def stAt (L : List StT) (i : Int) : StT := (L[i.toNat]?).getD stD
theorem stAt_e {L : List StT} {i : Nat} {x : StT} (h : L[i]? = some x) : stAt L (i : Int) = x := by unfold stAt; rw [Int.toNat_natCast, h]; rfl
theorem stAt_z {L : List StT} {i : Int} {x : StT} (h : L[i.toNat]? = some x) : stAt L i = x := by unfold stAt; rw [h]; rfl
def s1B (L : List StT) (i : Nat) (x : StT) : Bool := wordB x.1 && !((L.take i).any fun o => decide (o.1 = x.1))
def dyB (d : Int) : Bool := decide (0 ≤ d ∧ d ≤ 100000)
def s2B (x : StT) : Bool := spB x.2.2.1 && fOk x.2.2.2.1.1 x.2.2.2.1.2 && decide (0 ≤ x.2.2.2.1.1) && dyB x.2.2.2.2.1 && dyB x.2.2.2.2.2
def s3B (L : List StT) (i : Nat) (x : StT) : Bool := decide (-1 ≤ x.2.1 ∧ x.2.1 ≤ (i : Int) - 1) && (decide (x.2.1 < 0) || gdB (stAt L x.2.1) x.2.2.2.2.1)
def stB (L : List StT) (i : Nat) (x : StT) : Bool := s1B L i x && s2B x && s3B L i x
def chB (L : List StT) : Bool := allI stD (stB L) L && decide (L.length ≤ 30)
theorem ch_no {L : List StT} {k : Nat} {a : StT} (ha : L[k]? = some a) (h : stB L k a = false) : chB L = false := by
  unfold chB; rw [allI_no ha h, Bool.false_and]
theorem ch_yes {L : List StT} (h : ∀ (k : Nat) a, L[k]? = some a → stB L k a = true) : chB L = decide (L.length ≤ 30) := by
  unfold chB; rw [allI_iff.2 h, Bool.true_and]
theorem st_1 {L : List StT} {i : Nat} {x : StT} (h : s1B L i x = false) : stB L i x = false := by unfold stB; rw [h, Bool.false_and, Bool.false_and]
theorem st_2 {L : List StT} {i : Nat} {x : StT} (h : s2B x = false) : stB L i x = false := by unfold stB; rw [h, Bool.and_false, Bool.false_and]
theorem st_3 {L : List StT} {i : Nat} {x : StT} (h : s3B L i x = false) : stB L i x = false := by unfold stB; rw [h, Bool.and_false]
theorem ch_len {L : List StT} (h : chB L = true) : L.length ≤ 30 := by unfold chB at h; simp at h; exact h.2
theorem ch_at {L : List StT} (h : chB L = true) {k : Nat} {a : StT} (ha : L[k]? = some a) : stB L k a = true := by
  unfold chB at h; rw [Bool.and_eq_true] at h; exact allI_at h.1 ha
structure StOk (L : List StT) (k : Nat) (a : StT) : Prop where
  nm : wordB a.1 = true
  vl : spB a.2.2.1 = true
  dr : fOk a.2.2.2.1.1 a.2.2.2.1.2 = true
  dn : 0 ≤ a.2.2.2.1.1
  md : 0 ≤ a.2.2.2.2.1 ∧ a.2.2.2.2.1 ≤ 100000
  gd : 0 ≤ a.2.2.2.2.2 ∧ a.2.2.2.2.2 ≤ 100000
  fr : -1 ≤ a.2.1 ∧ a.2.1 ≤ (k : Int) - 1
  go : 0 ≤ a.2.1 → (stAt L a.2.1).2.2.2.2.1 ≤ a.2.2.2.2.1 ∧ a.2.2.2.2.1 ≤ (stAt L a.2.1).2.2.2.2.1 + (stAt L a.2.1).2.2.2.2.2
theorem stB_ok {L : List StT} {k : Nat} {a : StT} (h : stB L k a = true) : StOk L k a := by
  unfold stB s1B s2B s3B gdB dyB at h
  simp only [Bool.and_eq_true, Bool.or_eq_true, decide_eq_true_eq] at h
  obtain ⟨⟨⟨h1, _⟩, ⟨⟨⟨h2, h3⟩, h4⟩, h5⟩, h6⟩, h7, h8⟩ := h
  exact ⟨h1, h2, h3, h4, h5, h6, h7, fun h9 => by rcases h8 with h8 | h8 <;> omega⟩
theorem ch_ok {L : List StT} (h : chB L = true) {k : Nat} {a : StT} (ha : L[k]? = some a) : StOk L k a := stB_ok (ch_at h ha)
theorem ch_z {L : List StT} (h : chB L = true) {i : Int} (h0 : 0 ≤ i ∧ i < L.length) : ∃ a, L[i.toNat]? = some a ∧ stAt L i = a ∧ StOk L i.toNat a := by
  obtain ⟨a, ha⟩ := get_some (l := L) (i := i.toNat) (by omega)
  exact ⟨a, ha, stAt_z ha, ch_ok h ha⟩
/-- What an option is, told by a value and a flag. -/
def Tol {α : Type} (o : Option α) (v : α) (bad : Bool) : Prop := (bad = true ∧ o = none) ∨ (bad = false ∧ o = some v)
theorem Tol.of (o : Option FrT) : Tol o (tv o) (!o.isSome) := by cases o with | none => exact .inl ⟨rfl, rfl⟩ | some v => exact .inr ⟨rfl, rfl⟩
def zsS (o : Option SpT) : SpT := o.getD ((0, 0), 0, 0)
def oCS (o : Option SpT) : Int := if o.isSome = true then 0 else 3
theorem Tol.if {o : Option SpT} {v : SpT} {bad : Bool} (h : Tol o v bad) : (if bad = true then ((0, 0), 0, 0) else v) = zsS o ∧ (if bad = true then (3 : Int) else 0) = oCS o := by
  rcases h with ⟨h1, h2⟩ | ⟨h1, h2⟩ <;> (subst h1; subst h2; exact ⟨rfl, rfl⟩)
end Go.Proofs.YtamachahlhlhlaaGreatDoor.Eng
