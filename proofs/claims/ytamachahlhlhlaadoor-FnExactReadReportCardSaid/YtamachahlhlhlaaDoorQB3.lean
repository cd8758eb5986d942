/- Lemmas for the proof, no conditions of their own. -/
import Derived.Test.YtamachahlhlhlaaDoorQB2
import Derived.Test.YtamachahlhlhlaaDoorProg
import Derived.KernelRfl
import Derived.Shelf.Strconv.Itoa4
import Derived.Shelf.Strings.OnBuilder
import Derived.Ground.NamesProg
import Derived.Deep.RegionWith
import Derived.Lib.ParseIntBTie
import Derived.Shelf.Strconv.ErrVarParseInt
import Derived.Shelf.Strings.SplitShaped
import Derived.Lib.SplitLaws
import Derived.Lib.CutLaws
import Derived.Shelf.Strings.Cut
set_option linter.unusedVariables false
set_option linter.unusedSimpArgs false
set_option maxRecDepth 100000
namespace Go.Proofs.YtamachahlhlhlaaDoor.Eng
open Go Go.RowKit
def t_1 : TyD := { und := TypeDesc.func #[] #[] false, size := 1, bytes := 8, zero := [Value.nilFunc], fl := false }
theorem i_1 : TabE Tryd.prog (1, t_1, false) := ⟨by kernel_rfl, fun h => by simp at h⟩
def t_2 : TyD := { und := TypeDesc.int IntKind.i64, size := 1, bytes := 8, zero := [Value.int IntKind.i64 0], fl := true }
theorem i_2 : TabE Tryd.prog (2, t_2, false) := ⟨by kernel_rfl, fun h => by simp at h⟩
def t_3 : TyD := { und := TypeDesc.int IntKind.i64, size := 1, bytes := 8, zero := [Value.int IntKind.i64 0], fl := true }
theorem i_3 : TabE Tryd.prog (3, t_3, false) := ⟨by kernel_rfl, fun h => by simp at h⟩
def t_4 : TyD := { und := TypeDesc.bool, size := 1, bytes := 1, zero := [Value.bool false], fl := true }
theorem i_4 : TabE Tryd.prog (4, t_4, false) := ⟨by kernel_rfl, fun h => by simp at h⟩
def t_5 : TyD := { und := TypeDesc.int IntKind.u8, size := 1, bytes := 1, zero := [Value.int IntKind.u8 0], fl := true }
theorem i_5 : TabE Tryd.prog (5, t_5, false) := ⟨by kernel_rfl, fun h => by simp at h⟩
def t_6 : TyD := { und := TypeDesc.int IntKind.u8, size := 1, bytes := 1, zero := [Value.int IntKind.u8 0], fl := true }
theorem i_6 : TabE Tryd.prog (6, t_6, false) := ⟨by kernel_rfl, fun h => by simp at h⟩
def t_7 : TyD := { und := TypeDesc.struct #[{ name := "x", type := 2, offset := 0, embedded := false, tag := "", pkgPath := "runtime", byteOffset := 0 }, { name := "y", type := 3, offset := 1, embedded := false, tag := "", pkgPath := "runtime", byteOffset := 8 }, { name := "signed", type := 4, offset := 2, embedded := false, tag := "", pkgPath := "runtime", byteOffset := 16 }, { name := "code", type := 6, offset := 3, embedded := false, tag := "", pkgPath := "runtime", byteOffset := 17 }], size := 4, bytes := 24, zero := [Value.int IntKind.i64 0, Value.int IntKind.i64 0, Value.bool false, Value.int IntKind.u8 0], fl := true }
theorem i_7 : TabE Tryd.prog (7, t_7, true) := ⟨by kernel_rfl, fun _ => by kernel_rfl⟩
def t_8 : TyD := { und := TypeDesc.struct #[{ name := "x", type := 2, offset := 0, embedded := false, tag := "", pkgPath := "runtime", byteOffset := 0 }, { name := "y", type := 3, offset := 1, embedded := false, tag := "", pkgPath := "runtime", byteOffset := 8 }, { name := "signed", type := 4, offset := 2, embedded := false, tag := "", pkgPath := "runtime", byteOffset := 16 }, { name := "code", type := 6, offset := 3, embedded := false, tag := "", pkgPath := "runtime", byteOffset := 17 }], size := 4, bytes := 24, zero := [Value.int IntKind.i64 0, Value.int IntKind.i64 0, Value.bool false, Value.int IntKind.u8 0], fl := true }
theorem i_8 : TabE Tryd.prog (8, t_8, true) := ⟨by kernel_rfl, fun _ => by kernel_rfl⟩
def t_9 : TyD := { und := TypeDesc.string, size := 1, bytes := 16, zero := [Value.string ⟨#[]⟩], fl := true }
theorem i_9 : TabE Tryd.prog (9, t_9, false) := ⟨by kernel_rfl, fun h => by simp at h⟩
def t_10 : TyD := { und := TypeDesc.string, size := 1, bytes := 16, zero := [Value.string ⟨#[]⟩], fl := true }
theorem i_10 : TabE Tryd.prog (10, t_10, false) := ⟨by kernel_rfl, fun h => by simp at h⟩
def t_11 : TyD := { und := TypeDesc.string, size := 1, bytes := 16, zero := [Value.string ⟨#[]⟩], fl := true }
theorem i_11 : TabE Tryd.prog (11, t_11, false) := ⟨by kernel_rfl, fun h => by simp at h⟩
def t_12 : TyD := { und := TypeDesc.int IntKind.u64, size := 1, bytes := 8, zero := [Value.int IntKind.u64 0], fl := true }
theorem i_12 : TabE Tryd.prog (12, t_12, false) := ⟨by kernel_rfl, fun h => by simp at h⟩
def t_13 : TyD := { und := TypeDesc.struct #[{ name := "msg", type := 9, offset := 0, embedded := false, tag := "", pkgPath := "runtime", byteOffset := 0 }, { name := "addr", type := 12, offset := 1, embedded := false, tag := "", pkgPath := "runtime", byteOffset := 16 }], size := 2, bytes := 24, zero := [Value.string ⟨#[]⟩, Value.int IntKind.u64 0], fl := true }
theorem i_13 : TabE Tryd.prog (13, t_13, false) := ⟨by kernel_rfl, fun h => by simp at h⟩
def t_14 : TyD := { und := TypeDesc.struct #[{ name := "msg", type := 9, offset := 0, embedded := false, tag := "", pkgPath := "runtime", byteOffset := 0 }, { name := "addr", type := 12, offset := 1, embedded := false, tag := "", pkgPath := "runtime", byteOffset := 16 }], size := 2, bytes := 24, zero := [Value.string ⟨#[]⟩, Value.int IntKind.u64 0], fl := true }
theorem i_14 : TabE Tryd.prog (14, t_14, false) := ⟨by kernel_rfl, fun h => by simp at h⟩
def t_15 : TyD := { und := TypeDesc.pointer 163, size := 1, bytes := 8, zero := [Value.pointer none], fl := false }
theorem i_15 : TabE Tryd.prog (15, t_15, false) := ⟨by kernel_rfl, fun h => by simp at h⟩
def t_16 : TyD := { und := TypeDesc.pointer 166, size := 1, bytes := 8, zero := [Value.pointer none], fl := false }
theorem i_16 : TabE Tryd.prog (16, t_16, false) := ⟨by kernel_rfl, fun h => by simp at h⟩
def t_17 : TyD := { und := TypeDesc.pointer 174, size := 1, bytes := 8, zero := [Value.pointer none], fl := false }
theorem i_17 : TabE Tryd.prog (17, t_17, false) := ⟨by kernel_rfl, fun h => by simp at h⟩
def t_18 : TyD := { und := TypeDesc.struct #[{ name := "typ", type := 17, offset := 0, embedded := false, tag := "", pkgPath := "internal/runtime/maps", byteOffset := 0 }], size := 1, bytes := 8, zero := [Value.pointer none], fl := false }
theorem i_18 : TabE Tryd.prog (18, t_18, false) := ⟨by kernel_rfl, fun h => by simp at h⟩
def t_19 : TyD := { und := TypeDesc.struct #[{ name := "typ", type := 17, offset := 0, embedded := false, tag := "", pkgPath := "internal/runtime/maps", byteOffset := 0 }], size := 1, bytes := 8, zero := [Value.pointer none], fl := false }
theorem i_19 : TabE Tryd.prog (19, t_19, false) := ⟨by kernel_rfl, fun h => by simp at h⟩
def t_21 : TyD := { und := TypeDesc.int IntKind.i32, size := 1, bytes := 4, zero := [Value.int IntKind.i32 0], fl := true }
theorem i_21 : TabE Tryd.prog (21, t_21, false) := ⟨by kernel_rfl, fun h => by simp at h⟩
def t_22 : TyD := { und := TypeDesc.slice 46, size := 1, bytes := 24, zero := [Value.slice none 0 0], fl := false }
theorem i_22 : TabE Tryd.prog (22, t_22, false) := ⟨by kernel_rfl, fun h => by simp at h⟩
def t_24 : TyD := { und := TypeDesc.func #[9] #[22, 2] false, size := 1, bytes := 8, zero := [Value.nilFunc], fl := false }
theorem i_24 : TabE Tryd.prog (24, t_24, false) := ⟨by kernel_rfl, fun h => by simp at h⟩
def t_25 : TyD := { und := TypeDesc.func #[22, 22] #[4] false, size := 1, bytes := 8, zero := [Value.nilFunc], fl := false }
theorem i_25 : TabE Tryd.prog (25, t_25, false) := ⟨by kernel_rfl, fun h => by simp at h⟩
def t_26 : TyD := { und := TypeDesc.func #[22, 3] #[3] false, size := 1, bytes := 8, zero := [Value.nilFunc], fl := false }
theorem i_26 : TabE Tryd.prog (26, t_26, false) := ⟨by kernel_rfl, fun h => by simp at h⟩
def t_27 : TyD := { und := TypeDesc.func #[9] #[4] false, size := 1, bytes := 8, zero := [Value.nilFunc], fl := false }
theorem i_27 : TabE Tryd.prog (27, t_27, false) := ⟨by kernel_rfl, fun h => by simp at h⟩
def t_28 : TyD := { und := TypeDesc.struct #[{ name := "P", type := 2, offset := 0, embedded := false, tag := "", pkgPath := "", byteOffset := 0 }, { name := "Q", type := 2, offset := 1, embedded := false, tag := "", pkgPath := "", byteOffset := 8 }], size := 2, bytes := 16, zero := [Value.int IntKind.i64 0, Value.int IntKind.i64 0], fl := true }
theorem i_28 : TabE Tryd.prog (28, t_28, true) := ⟨by kernel_rfl, fun _ => by kernel_rfl⟩
def t_29 : TyD := { und := TypeDesc.struct #[{ name := "P", type := 2, offset := 0, embedded := false, tag := "", pkgPath := "", byteOffset := 0 }, { name := "Q", type := 2, offset := 1, embedded := false, tag := "", pkgPath := "", byteOffset := 8 }], size := 2, bytes := 16, zero := [Value.int IntKind.i64 0, Value.int IntKind.i64 0], fl := true }
theorem i_29 : TabE Tryd.prog (29, t_29, true) := ⟨by kernel_rfl, fun _ => by kernel_rfl⟩
def t_30 : TyD := { und := TypeDesc.struct #[{ name := "Thing", type := 2, offset := 0, embedded := false, tag := "", pkgPath := "", byteOffset := 0 }, { name := "Warm", type := 29, offset := 1, embedded := false, tag := "", pkgPath := "", byteOffset := 8 }, { name := "Start", type := 29, offset := 3, embedded := false, tag := "", pkgPath := "", byteOffset := 24 }], size := 5, bytes := 40, zero := [Value.int IntKind.i64 0, Value.int IntKind.i64 0, Value.int IntKind.i64 0, Value.int IntKind.i64 0, Value.int IntKind.i64 0], fl := true }
theorem i_30 : TabE Tryd.prog (30, t_30, true) := ⟨by kernel_rfl, fun _ => by kernel_rfl⟩
def t_31 : TyD := { und := TypeDesc.struct #[{ name := "Thing", type := 2, offset := 0, embedded := false, tag := "", pkgPath := "", byteOffset := 0 }, { name := "Warm", type := 29, offset := 1, embedded := false, tag := "", pkgPath := "", byteOffset := 8 }, { name := "Start", type := 29, offset := 3, embedded := false, tag := "", pkgPath := "", byteOffset := 24 }], size := 5, bytes := 40, zero := [Value.int IntKind.i64 0, Value.int IntKind.i64 0, Value.int IntKind.i64 0, Value.int IntKind.i64 0, Value.int IntKind.i64 0], fl := true }
theorem i_31 : TabE Tryd.prog (31, t_31, true) := ⟨by kernel_rfl, fun _ => by kernel_rfl⟩
def t_32 : TyD := { und := TypeDesc.struct #[{ name := "Low", type := 29, offset := 0, embedded := false, tag := "", pkgPath := "", byteOffset := 0 }, { name := "High", type := 29, offset := 2, embedded := false, tag := "", pkgPath := "", byteOffset := 16 }], size := 4, bytes := 32, zero := [Value.int IntKind.i64 0, Value.int IntKind.i64 0, Value.int IntKind.i64 0, Value.int IntKind.i64 0], fl := true }
theorem i_32 : TabE Tryd.prog (32, t_32, true) := ⟨by kernel_rfl, fun _ => by kernel_rfl⟩
def t_33 : TyD := { und := TypeDesc.struct #[{ name := "Low", type := 29, offset := 0, embedded := false, tag := "", pkgPath := "", byteOffset := 0 }, { name := "High", type := 29, offset := 2, embedded := false, tag := "", pkgPath := "", byteOffset := 16 }], size := 4, bytes := 32, zero := [Value.int IntKind.i64 0, Value.int IntKind.i64 0, Value.int IntKind.i64 0, Value.int IntKind.i64 0], fl := true }
theorem i_33 : TabE Tryd.prog (33, t_33, true) := ⟨by kernel_rfl, fun _ => by kernel_rfl⟩
def t_34 : TyD := { und := TypeDesc.struct #[{ name := "Shot", type := 31, offset := 0, embedded := false, tag := "", pkgPath := "", byteOffset := 0 }, { name := "First", type := 29, offset := 5, embedded := false, tag := "", pkgPath := "", byteOffset := 40 }, { name := "Second", type := 29, offset := 7, embedded := false, tag := "", pkgPath := "", byteOffset := 56 }, { name := "Length", type := 29, offset := 9, embedded := false, tag := "", pkgPath := "", byteOffset := 72 }, { name := "Open", type := 33, offset := 11, embedded := false, tag := "", pkgPath := "", byteOffset := 88 }], size := 15, bytes := 120, zero := [Value.int IntKind.i64 0, Value.int IntKind.i64 0, Value.int IntKind.i64 0, Value.int IntKind.i64 0, Value.int IntKind.i64 0, Value.int IntKind.i64 0, Value.int IntKind.i64 0, Value.int IntKind.i64 0, Value.int IntKind.i64 0, Value.int IntKind.i64 0, Value.int IntKind.i64 0, Value.int IntKind.i64 0, Value.int IntKind.i64 0, Value.int IntKind.i64 0, Value.int IntKind.i64 0], fl := true }
theorem i_34 : TabE Tryd.prog (34, t_34, true) := ⟨by kernel_rfl, fun _ => by kernel_rfl⟩
def t_35 : TyD := { und := TypeDesc.struct #[{ name := "Shot", type := 31, offset := 0, embedded := false, tag := "", pkgPath := "", byteOffset := 0 }, { name := "First", type := 29, offset := 5, embedded := false, tag := "", pkgPath := "", byteOffset := 40 }, { name := "Second", type := 29, offset := 7, embedded := false, tag := "", pkgPath := "", byteOffset := 56 }, { name := "Length", type := 29, offset := 9, embedded := false, tag := "", pkgPath := "", byteOffset := 72 }, { name := "Open", type := 33, offset := 11, embedded := false, tag := "", pkgPath := "", byteOffset := 88 }], size := 15, bytes := 120, zero := [Value.int IntKind.i64 0, Value.int IntKind.i64 0, Value.int IntKind.i64 0, Value.int IntKind.i64 0, Value.int IntKind.i64 0, Value.int IntKind.i64 0, Value.int IntKind.i64 0, Value.int IntKind.i64 0, Value.int IntKind.i64 0, Value.int IntKind.i64 0, Value.int IntKind.i64 0, Value.int IntKind.i64 0, Value.int IntKind.i64 0, Value.int IntKind.i64 0, Value.int IntKind.i64 0], fl := true }
theorem i_35 : TabE Tryd.prog (35, t_35, true) := ⟨by kernel_rfl, fun _ => by kernel_rfl⟩
def t_37 : TyD := { und := TypeDesc.func #[9] #[35, 2] false, size := 1, bytes := 8, zero := [Value.nilFunc], fl := false }
theorem i_37 : TabE Tryd.prog (37, t_37, false) := ⟨by kernel_rfl, fun h => by simp at h⟩
def t_38 : TyD := { und := TypeDesc.func #[35, 35] #[4] false, size := 1, bytes := 8, zero := [Value.nilFunc], fl := false }
theorem i_38 : TabE Tryd.prog (38, t_38, false) := ⟨by kernel_rfl, fun h => by simp at h⟩
def t_39 : TyD := { und := TypeDesc.slice 9, size := 1, bytes := 24, zero := [Value.slice none 0 0], fl := false }
theorem i_39 : TabE Tryd.prog (39, t_39, false) := ⟨by kernel_rfl, fun h => by simp at h⟩
def t_40 : TyD := { und := TypeDesc.func #[9, 5] #[39] false, size := 1, bytes := 8, zero := [Value.nilFunc], fl := false }
theorem i_40 : TabE Tryd.prog (40, t_40, false) := ⟨by kernel_rfl, fun h => by simp at h⟩
def t_42 : TyD := { und := TypeDesc.func #[9] #[2, 4] false, size := 1, bytes := 8, zero := [Value.nilFunc], fl := false }
theorem i_42 : TabE Tryd.prog (42, t_42, false) := ⟨by kernel_rfl, fun h => by simp at h⟩
def t_43 : TyD := { und := TypeDesc.func #[2, 2, 2] #[4] false, size := 1, bytes := 8, zero := [Value.nilFunc], fl := false }
theorem i_43 : TabE Tryd.prog (43, t_43, false) := ⟨by kernel_rfl, fun h => by simp at h⟩
def t_44 : TyD := { und := TypeDesc.int IntKind.i16, size := 1, bytes := 2, zero := [Value.int IntKind.i16 0], fl := true }
theorem i_44 : TabE Tryd.prog (44, t_44, false) := ⟨by kernel_rfl, fun h => by simp at h⟩
def t_45 : TyD := { und := TypeDesc.struct #[{ name := "Name", type := 9, offset := 0, embedded := false, tag := "", pkgPath := "", byteOffset := 0 }, { name := "Bias", type := 44, offset := 1, embedded := false, tag := "", pkgPath := "", byteOffset := 16 }, { name := "Unit", type := 44, offset := 2, embedded := false, tag := "", pkgPath := "", byteOffset := 18 }, { name := "Up", type := 4, offset := 3, embedded := false, tag := "", pkgPath := "", byteOffset := 20 }], size := 4, bytes := 24, zero := [Value.string ⟨#[]⟩, Value.int IntKind.i16 0, Value.int IntKind.i16 0, Value.bool false], fl := true }
theorem i_45 : TabE Tryd.prog (45, t_45, true) := ⟨by kernel_rfl, fun _ => by kernel_rfl⟩
def t_46 : TyD := { und := TypeDesc.struct #[{ name := "Name", type := 9, offset := 0, embedded := false, tag := "", pkgPath := "", byteOffset := 0 }, { name := "Bias", type := 44, offset := 1, embedded := false, tag := "", pkgPath := "", byteOffset := 16 }, { name := "Unit", type := 44, offset := 2, embedded := false, tag := "", pkgPath := "", byteOffset := 18 }, { name := "Up", type := 4, offset := 3, embedded := false, tag := "", pkgPath := "", byteOffset := 20 }], size := 4, bytes := 24, zero := [Value.string ⟨#[]⟩, Value.int IntKind.i16 0, Value.int IntKind.i16 0, Value.bool false], fl := true }
theorem i_46 : TabE Tryd.prog (46, t_46, true) := ⟨by kernel_rfl, fun _ => by kernel_rfl⟩
def t_47 : TyD := { und := TypeDesc.func #[22] #[4] false, size := 1, bytes := 8, zero := [Value.nilFunc], fl := false }
theorem i_47 : TabE Tryd.prog (47, t_47, false) := ⟨by kernel_rfl, fun h => by simp at h⟩
def t_48 : TyD := { und := TypeDesc.func #[22] #[9] false, size := 1, bytes := 8, zero := [Value.nilFunc], fl := false }
theorem i_48 : TabE Tryd.prog (48, t_48, false) := ⟨by kernel_rfl, fun h => by simp at h⟩
def t_50 : TyD := { und := TypeDesc.func #[9] #[39, 4] false, size := 1, bytes := 8, zero := [Value.nilFunc], fl := false }
theorem i_50 : TabE Tryd.prog (50, t_50, false) := ⟨by kernel_rfl, fun h => by simp at h⟩
def t_51 : TyD := { und := TypeDesc.func #[9, 9] #[39] false, size := 1, bytes := 8, zero := [Value.nilFunc], fl := false }
theorem i_51 : TabE Tryd.prog (51, t_51, false) := ⟨by kernel_rfl, fun h => by simp at h⟩
def t_52 : TyD := { und := TypeDesc.func #[9] #[2] false, size := 1, bytes := 8, zero := [Value.nilFunc], fl := false }
theorem i_52 : TabE Tryd.prog (52, t_52, false) := ⟨by kernel_rfl, fun h => by simp at h⟩
def t_53 : TyD := { und := TypeDesc.func #[46, 46] #[4] false, size := 1, bytes := 8, zero := [Value.nilFunc], fl := false }
theorem i_53 : TabE Tryd.prog (53, t_53, false) := ⟨by kernel_rfl, fun h => by simp at h⟩
def t_54 : TyD := { und := TypeDesc.func #[3] #[9] false, size := 1, bytes := 8, zero := [Value.nilFunc], fl := false }
theorem i_54 : TabE Tryd.prog (54, t_54, false) := ⟨by kernel_rfl, fun h => by simp at h⟩
def t_55 : TyD := { und := TypeDesc.slice 29, size := 1, bytes := 24, zero := [Value.slice none 0 0], fl := false }
theorem i_55 : TabE Tryd.prog (55, t_55, false) := ⟨by kernel_rfl, fun h => by simp at h⟩
def t_57 : TyD := { und := TypeDesc.func #[9] #[29, 4] false, size := 1, bytes := 8, zero := [Value.nilFunc], fl := false }
theorem i_57 : TabE Tryd.prog (57, t_57, false) := ⟨by kernel_rfl, fun h => by simp at h⟩
def t_59 : TyD := { und := TypeDesc.func #[9] #[33, 4] false, size := 1, bytes := 8, zero := [Value.nilFunc], fl := false }
theorem i_59 : TabE Tryd.prog (59, t_59, false) := ⟨by kernel_rfl, fun h => by simp at h⟩
def t_60 : TyD := { und := TypeDesc.func #[61] #[4] false, size := 1, bytes := 8, zero := [Value.nilFunc], fl := false }
theorem i_60 : TabE Tryd.prog (60, t_60, false) := ⟨by kernel_rfl, fun h => by simp at h⟩
def t_61 : TyD := { und := TypeDesc.pointer 35, size := 1, bytes := 8, zero := [Value.pointer none], fl := false }
theorem i_61 : TabE Tryd.prog (61, t_61, false) := ⟨by kernel_rfl, fun h => by simp at h⟩
def t_62 : TyD := { und := TypeDesc.func #[39] #[55] false, size := 1, bytes := 8, zero := [Value.nilFunc], fl := false }
theorem i_62 : TabE Tryd.prog (62, t_62, false) := ⟨by kernel_rfl, fun h => by simp at h⟩
def t_64 : TyD := { und := TypeDesc.func #[9] #[33, 2] false, size := 1, bytes := 8, zero := [Value.nilFunc], fl := false }
theorem i_64 : TabE Tryd.prog (64, t_64, false) := ⟨by kernel_rfl, fun h => by simp at h⟩
def t_65 : TyD := { und := TypeDesc.func #[35] #[9] false, size := 1, bytes := 8, zero := [Value.nilFunc], fl := false }
theorem i_65 : TabE Tryd.prog (65, t_65, false) := ⟨by kernel_rfl, fun h => by simp at h⟩
def t_66 : TyD := { und := TypeDesc.func #[31, 31] #[4] false, size := 1, bytes := 8, zero := [Value.nilFunc], fl := false }
theorem i_66 : TabE Tryd.prog (66, t_66, false) := ⟨by kernel_rfl, fun h => by simp at h⟩
def t_67 : TyD := { und := TypeDesc.func #[29, 29] #[4] false, size := 1, bytes := 8, zero := [Value.nilFunc], fl := false }
theorem i_67 : TabE Tryd.prog (67, t_67, false) := ⟨by kernel_rfl, fun h => by simp at h⟩
def t_68 : TyD := { und := TypeDesc.func #[33, 33] #[4] false, size := 1, bytes := 8, zero := [Value.nilFunc], fl := false }
theorem i_68 : TabE Tryd.prog (68, t_68, false) := ⟨by kernel_rfl, fun h => by simp at h⟩
def t_69 : TyD := { und := TypeDesc.func #[70] #[4] false, size := 1, bytes := 8, zero := [Value.nilFunc], fl := false }
theorem i_69 : TabE Tryd.prog (69, t_69, false) := ⟨by kernel_rfl, fun h => by simp at h⟩
def t_70 : TyD := { und := TypeDesc.pointer 46, size := 1, bytes := 8, zero := [Value.pointer none], fl := false }
theorem i_70 : TabE Tryd.prog (70, t_70, false) := ⟨by kernel_rfl, fun h => by simp at h⟩
def t_71 : TyD := { und := TypeDesc.func #[2] #[9] false, size := 1, bytes := 8, zero := [Value.nilFunc], fl := false }
theorem i_71 : TabE Tryd.prog (71, t_71, false) := ⟨by kernel_rfl, fun h => by simp at h⟩
def t_72 : TyD := { und := TypeDesc.func #[9, 9, 3, 3] #[39] false, size := 1, bytes := 8, zero := [Value.nilFunc], fl := false }
theorem i_72 : TabE Tryd.prog (72, t_72, false) := ⟨by kernel_rfl, fun h => by simp at h⟩
def t_76 : TyD := { und := TypeDesc.func #[9, 3, 3] #[2, 74] false, size := 1, bytes := 8, zero := [Value.nilFunc], fl := false }
theorem i_76 : TabE Tryd.prog (76, t_76, false) := ⟨by kernel_rfl, fun h => by simp at h⟩
def t_77 : TyD := { und := TypeDesc.func #[39, 9] #[9] false, size := 1, bytes := 8, zero := [Value.nilFunc], fl := false }
theorem i_77 : TabE Tryd.prog (77, t_77, false) := ⟨by kernel_rfl, fun h => by simp at h⟩
def t_78 : TyD := { und := TypeDesc.slice 5, size := 1, bytes := 24, zero := [Value.slice none 0 0], fl := false }
theorem i_78 : TabE Tryd.prog (78, t_78, false) := ⟨by kernel_rfl, fun h => by simp at h⟩
def t_79 : TyD := { und := TypeDesc.func #[2] #[29] false, size := 1, bytes := 8, zero := [Value.nilFunc], fl := false }
theorem i_79 : TabE Tryd.prog (79, t_79, false) := ⟨by kernel_rfl, fun h => by simp at h⟩
def t_80 : TyD := { und := TypeDesc.func #[29] #[4] false, size := 1, bytes := 8, zero := [Value.nilFunc], fl := false }
theorem i_80 : TabE Tryd.prog (80, t_80, false) := ⟨by kernel_rfl, fun h => by simp at h⟩
def t_81 : TyD := { und := TypeDesc.func #[82] #[4] false, size := 1, bytes := 8, zero := [Value.nilFunc], fl := false }
theorem i_81 : TabE Tryd.prog (81, t_81, false) := ⟨by kernel_rfl, fun h => by simp at h⟩
def t_82 : TyD := { und := TypeDesc.pointer 33, size := 1, bytes := 8, zero := [Value.pointer none], fl := false }
theorem i_82 : TabE Tryd.prog (82, t_82, false) := ⟨by kernel_rfl, fun h => by simp at h⟩
def t_83 : TyD := { und := TypeDesc.func #[55] #[4] false, size := 1, bytes := 8, zero := [Value.nilFunc], fl := false }
theorem i_83 : TabE Tryd.prog (83, t_83, false) := ⟨by kernel_rfl, fun h => by simp at h⟩
def t_85 : TyD := { und := TypeDesc.func #[9] #[29, 2] false, size := 1, bytes := 8, zero := [Value.nilFunc], fl := false }
theorem i_85 : TabE Tryd.prog (85, t_85, false) := ⟨by kernel_rfl, fun h => by simp at h⟩
def t_87 : TyD := { und := TypeDesc.func #[9, 9] #[9, 9, 4] false, size := 1, bytes := 8, zero := [Value.nilFunc], fl := false }
theorem i_87 : TabE Tryd.prog (87, t_87, false) := ⟨by kernel_rfl, fun h => by simp at h⟩
def t_88 : TyD := { und := TypeDesc.func #[33] #[9] false, size := 1, bytes := 8, zero := [Value.nilFunc], fl := false }
theorem i_88 : TabE Tryd.prog (88, t_88, false) := ⟨by kernel_rfl, fun h => by simp at h⟩
def t_89 : TyD := { und := TypeDesc.func #[55] #[4] true, size := 1, bytes := 8, zero := [Value.nilFunc], fl := false }
theorem i_89 : TabE Tryd.prog (89, t_89, false) := ⟨by kernel_rfl, fun h => by simp at h⟩
def t_90 : TyD := { und := TypeDesc.func #[33] #[4] false, size := 1, bytes := 8, zero := [Value.nilFunc], fl := false }
theorem i_90 : TabE Tryd.prog (90, t_90, false) := ⟨by kernel_rfl, fun h => by simp at h⟩
def t_91 : TyD := { und := TypeDesc.func #[55] #[9] true, size := 1, bytes := 8, zero := [Value.nilFunc], fl := false }
theorem i_91 : TabE Tryd.prog (91, t_91, false) := ⟨by kernel_rfl, fun h => by simp at h⟩
def t_92 : TyD := { und := TypeDesc.func #[94] #[4] false, size := 1, bytes := 8, zero := [Value.nilFunc], fl := false }
theorem i_92 : TabE Tryd.prog (92, t_92, false) := ⟨by kernel_rfl, fun h => by simp at h⟩
def t_93 : TyD := { und := TypeDesc.struct #[{ name := "Bias", type := 44, offset := 0, embedded := false, tag := "", pkgPath := "", byteOffset := 0 }, { name := "Unit", type := 44, offset := 1, embedded := false, tag := "", pkgPath := "", byteOffset := 2 }, { name := "Up", type := 4, offset := 2, embedded := false, tag := "", pkgPath := "", byteOffset := 4 }], size := 3, bytes := 6, zero := [Value.int IntKind.i16 0, Value.int IntKind.i16 0, Value.bool false], fl := true }
theorem i_93 : TabE Tryd.prog (93, t_93, true) := ⟨by kernel_rfl, fun _ => by kernel_rfl⟩
def t_94 : TyD := { und := TypeDesc.struct #[{ name := "Bias", type := 44, offset := 0, embedded := false, tag := "", pkgPath := "", byteOffset := 0 }, { name := "Unit", type := 44, offset := 1, embedded := false, tag := "", pkgPath := "", byteOffset := 2 }, { name := "Up", type := 4, offset := 2, embedded := false, tag := "", pkgPath := "", byteOffset := 4 }], size := 3, bytes := 6, zero := [Value.int IntKind.i16 0, Value.int IntKind.i16 0, Value.bool false], fl := true }
theorem i_94 : TabE Tryd.prog (94, t_94, true) := ⟨by kernel_rfl, fun _ => by kernel_rfl⟩
def t_95 : TyD := { und := TypeDesc.func #[70] #[94] false, size := 1, bytes := 8, zero := [Value.nilFunc], fl := false }
theorem i_95 : TabE Tryd.prog (95, t_95, false) := ⟨by kernel_rfl, fun h => by simp at h⟩
def t_96 : TyD := { und := TypeDesc.func #[9, 3] #[39] false, size := 1, bytes := 8, zero := [Value.nilFunc], fl := false }
theorem i_96 : TabE Tryd.prog (96, t_96, false) := ⟨by kernel_rfl, fun h => by simp at h⟩
def t_97 : TyD := { und := TypeDesc.func #[9, 9] #[3] false, size := 1, bytes := 8, zero := [Value.nilFunc], fl := false }
theorem i_97 : TabE Tryd.prog (97, t_97, false) := ⟨by kernel_rfl, fun h => by simp at h⟩
def t_98 : TyD := { und := TypeDesc.func #[9, 9, 3, 3, 74] #[74] false, size := 1, bytes := 8, zero := [Value.nilFunc], fl := false }
theorem i_98 : TabE Tryd.prog (98, t_98, false) := ⟨by kernel_rfl, fun h => by simp at h⟩
def t_99 : TyD := { und := TypeDesc.func #[22, 100] #[4] false, size := 1, bytes := 8, zero := [Value.nilFunc], fl := false }
theorem i_99 : TabE Tryd.prog (99, t_99, false) := ⟨by kernel_rfl, fun h => by simp at h⟩
def t_100 : TyD := { und := TypeDesc.func #[46] #[4] false, size := 1, bytes := 8, zero := [Value.nilFunc], fl := false }
theorem i_100 : TabE Tryd.prog (100, t_100, false) := ⟨by kernel_rfl, fun h => by simp at h⟩
def t_101 : TyD := { und := TypeDesc.pointer 103, size := 1, bytes := 8, zero := [Value.pointer none], fl := false }
theorem i_101 : TabE Tryd.prog (101, t_101, false) := ⟨by kernel_rfl, fun h => by simp at h⟩
def t_102 : TyD := { und := TypeDesc.struct #[{ name := "addr", type := 101, offset := 0, embedded := false, tag := "", pkgPath := "strings", byteOffset := 0 }, { name := "buf", type := 78, offset := 1, embedded := false, tag := "", pkgPath := "strings", byteOffset := 8 }], size := 2, bytes := 32, zero := [Value.pointer none, Value.slice none 0 0], fl := false }
theorem i_102 : TabE Tryd.prog (102, t_102, true) := ⟨by kernel_rfl, fun _ => by kernel_rfl⟩
def t_103 : TyD := { und := TypeDesc.struct #[{ name := "addr", type := 101, offset := 0, embedded := false, tag := "", pkgPath := "strings", byteOffset := 0 }, { name := "buf", type := 78, offset := 1, embedded := false, tag := "", pkgPath := "strings", byteOffset := 8 }], size := 2, bytes := 32, zero := [Value.pointer none, Value.slice none 0 0], fl := false }
theorem i_103 : TabE Tryd.prog (103, t_103, true) := ⟨by kernel_rfl, fun _ => by kernel_rfl⟩
def t_104 : TyD := { und := TypeDesc.func #[3] #[] false, size := 1, bytes := 8, zero := [Value.nilFunc], fl := false }
theorem i_104 : TabE Tryd.prog (104, t_104, false) := ⟨by kernel_rfl, fun h => by simp at h⟩
def t_106 : TyD := { und := TypeDesc.func #[9] #[3, 74] false, size := 1, bytes := 8, zero := [Value.nilFunc], fl := false }
theorem i_106 : TabE Tryd.prog (106, t_106, false) := ⟨by kernel_rfl, fun h => by simp at h⟩
def t_107 : TyD := { und := TypeDesc.func #[] #[9] false, size := 1, bytes := 8, zero := [Value.nilFunc], fl := false }
theorem i_107 : TabE Tryd.prog (107, t_107, false) := ⟨by kernel_rfl, fun h => by simp at h⟩
def t_108 : TyD := { und := TypeDesc.func #[2, 3] #[9] false, size := 1, bytes := 8, zero := [Value.nilFunc], fl := false }
theorem i_108 : TabE Tryd.prog (108, t_108, false) := ⟨by kernel_rfl, fun h => by simp at h⟩
def t_109 : TyD := { und := TypeDesc.func #[2, 2] #[2] false, size := 1, bytes := 8, zero := [Value.nilFunc], fl := false }
theorem i_109 : TabE Tryd.prog (109, t_109, false) := ⟨by kernel_rfl, fun h => by simp at h⟩
def t_110 : TyD := { und := TypeDesc.func #[2] #[2] false, size := 1, bytes := 8, zero := [Value.nilFunc], fl := false }
theorem i_110 : TabE Tryd.prog (110, t_110, false) := ⟨by kernel_rfl, fun h => by simp at h⟩
def t_111 : TyD := { und := TypeDesc.func #[29, 29] #[2] false, size := 1, bytes := 8, zero := [Value.nilFunc], fl := false }
theorem i_111 : TabE Tryd.prog (111, t_111, false) := ⟨by kernel_rfl, fun h => by simp at h⟩
def t_112 : TyD := { und := TypeDesc.func #[29] #[9] false, size := 1, bytes := 8, zero := [Value.nilFunc], fl := false }
theorem i_112 : TabE Tryd.prog (112, t_112, false) := ⟨by kernel_rfl, fun h => by simp at h⟩
def t_113 : TyD := { und := TypeDesc.func #[55, 80] #[4] false, size := 1, bytes := 8, zero := [Value.nilFunc], fl := false }
theorem i_113 : TabE Tryd.prog (113, t_113, false) := ⟨by kernel_rfl, fun h => by simp at h⟩
def t_114 : TyD := { und := TypeDesc.func #[9] #[3] false, size := 1, bytes := 8, zero := [Value.nilFunc], fl := false }
theorem i_114 : TabE Tryd.prog (114, t_114, false) := ⟨by kernel_rfl, fun h => by simp at h⟩
def t_116 : TyD := { und := TypeDesc.func #[9] #[21, 3] false, size := 1, bytes := 8, zero := [Value.nilFunc], fl := false }
theorem i_116 : TabE Tryd.prog (116, t_116, false) := ⟨by kernel_rfl, fun h => by simp at h⟩
def t_117 : TyD := { und := TypeDesc.func #[9, 5] #[3] false, size := 1, bytes := 8, zero := [Value.nilFunc], fl := false }
theorem i_117 : TabE Tryd.prog (117, t_117, false) := ⟨by kernel_rfl, fun h => by simp at h⟩
def t_118 : TyD := { und := TypeDesc.int IntKind.i64, size := 1, bytes := 8, zero := [Value.int IntKind.i64 0], fl := true }
theorem i_118 : TabE Tryd.prog (118, t_118, false) := ⟨by kernel_rfl, fun h => by simp at h⟩
def t_119 : TyD := { und := TypeDesc.int IntKind.u64, size := 1, bytes := 8, zero := [Value.int IntKind.u64 0], fl := true }
theorem i_119 : TabE Tryd.prog (119, t_119, false) := ⟨by kernel_rfl, fun h => by simp at h⟩
def t_121 : TyD := { und := TypeDesc.func #[9, 3, 3] #[119, 74] false, size := 1, bytes := 8, zero := [Value.nilFunc], fl := false }
theorem i_121 : TabE Tryd.prog (121, t_121, false) := ⟨by kernel_rfl, fun h => by simp at h⟩
def t_122 : TyD := { und := TypeDesc.int IntKind.u64, size := 1, bytes := 8, zero := [Value.int IntKind.u64 0], fl := true }
theorem i_122 : TabE Tryd.prog (122, t_122, false) := ⟨by kernel_rfl, fun h => by simp at h⟩
def t_123 : TyD := { und := TypeDesc.pointer 134, size := 1, bytes := 8, zero := [Value.pointer none], fl := false }
theorem i_123 : TabE Tryd.prog (123, t_123, false) := ⟨by kernel_rfl, fun h => by simp at h⟩
def t_124 : TyD := { und := TypeDesc.func #[9, 9] #[123] false, size := 1, bytes := 8, zero := [Value.nilFunc], fl := false }
theorem i_124 : TabE Tryd.prog (124, t_124, false) := ⟨by kernel_rfl, fun h => by simp at h⟩
def t_125 : TyD := { und := TypeDesc.func #[9, 9, 3] #[123] false, size := 1, bytes := 8, zero := [Value.nilFunc], fl := false }
theorem i_125 : TabE Tryd.prog (125, t_125, false) := ⟨by kernel_rfl, fun h => by simp at h⟩
def t_126 : TyD := { und := TypeDesc.func #[22, 100] #[3] false, size := 1, bytes := 8, zero := [Value.nilFunc], fl := false }
theorem i_126 : TabE Tryd.prog (126, t_126, false) := ⟨by kernel_rfl, fun h => by simp at h⟩
def t_127 : TyD := { und := TypeDesc.func #[] #[94] false, size := 1, bytes := 8, zero := [Value.nilFunc], fl := false }
theorem i_127 : TabE Tryd.prog (127, t_127, false) := ⟨by kernel_rfl, fun h => by simp at h⟩
def t_128 : TyD := { und := TypeDesc.pointer 5, size := 1, bytes := 8, zero := [Value.pointer none], fl := false }
theorem i_128 : TabE Tryd.prog (128, t_128, false) := ⟨by kernel_rfl, fun h => by simp at h⟩
def t_129 : TyD := { und := TypeDesc.func #[55, 80] #[3] false, size := 1, bytes := 8, zero := [Value.nilFunc], fl := false }
theorem i_129 : TabE Tryd.prog (129, t_129, false) := ⟨by kernel_rfl, fun h => by simp at h⟩
def t_130 : TyD := { und := TypeDesc.func #[3] #[3] false, size := 1, bytes := 8, zero := [Value.nilFunc], fl := false }
theorem i_130 : TabE Tryd.prog (130, t_130, false) := ⟨by kernel_rfl, fun h => by simp at h⟩
def t_131 : TyD := { und := TypeDesc.func #[5] #[5] false, size := 1, bytes := 8, zero := [Value.nilFunc], fl := false }
theorem i_131 : TabE Tryd.prog (131, t_131, false) := ⟨by kernel_rfl, fun h => by simp at h⟩
def t_132 : TyD := { und := TypeDesc.func #[9] #[9] false, size := 1, bytes := 8, zero := [Value.nilFunc], fl := false }
theorem i_132 : TabE Tryd.prog (132, t_132, false) := ⟨by kernel_rfl, fun h => by simp at h⟩
def t_133 : TyD := { und := TypeDesc.struct #[{ name := "Func", type := 9, offset := 0, embedded := false, tag := "", pkgPath := "", byteOffset := 0 }, { name := "Num", type := 9, offset := 1, embedded := false, tag := "", pkgPath := "", byteOffset := 16 }, { name := "Err", type := 74, offset := 2, embedded := false, tag := "", pkgPath := "", byteOffset := 32 }], size := 3, bytes := 48, zero := [Value.string ⟨#[]⟩, Value.string ⟨#[]⟩, Value.nilIface], fl := false }
theorem i_133 : TabE Tryd.prog (133, t_133, false) := ⟨by kernel_rfl, fun h => by simp at h⟩
def t_134 : TyD := { und := TypeDesc.struct #[{ name := "Func", type := 9, offset := 0, embedded := false, tag := "", pkgPath := "", byteOffset := 0 }, { name := "Num", type := 9, offset := 1, embedded := false, tag := "", pkgPath := "", byteOffset := 16 }, { name := "Err", type := 74, offset := 2, embedded := false, tag := "", pkgPath := "", byteOffset := 32 }], size := 3, bytes := 48, zero := [Value.string ⟨#[]⟩, Value.string ⟨#[]⟩, Value.nilIface], fl := false }
theorem i_134 : TabE Tryd.prog (134, t_134, false) := ⟨by kernel_rfl, fun h => by simp at h⟩
def t_135 : TyD := { und := TypeDesc.func #[9] #[74] false, size := 1, bytes := 8, zero := [Value.nilFunc], fl := false }
theorem i_135 : TabE Tryd.prog (135, t_135, false) := ⟨by kernel_rfl, fun h => by simp at h⟩
def t_136 : TyD := { und := TypeDesc.unsafePointer, size := 1, bytes := 8, zero := [Value.pointer none], fl := false }
theorem i_136 : TabE Tryd.prog (136, t_136, false) := ⟨by kernel_rfl, fun h => by simp at h⟩
def t_137 : TyD := { und := TypeDesc.func #[136] #[136] false, size := 1, bytes := 8, zero := [Value.nilFunc], fl := false }
theorem i_137 : TabE Tryd.prog (137, t_137, false) := ⟨by kernel_rfl, fun h => by simp at h⟩
def t_138 : TyD := { und := TypeDesc.func #[3] #[78] false, size := 1, bytes := 8, zero := [Value.nilFunc], fl := false }
theorem i_138 : TabE Tryd.prog (138, t_138, false) := ⟨by kernel_rfl, fun h => by simp at h⟩
def t_139 : TyD := { und := TypeDesc.array 24 5, size := 24, bytes := 24, zero := [Value.int IntKind.u8 0, Value.int IntKind.u8 0, Value.int IntKind.u8 0, Value.int IntKind.u8 0, Value.int IntKind.u8 0, Value.int IntKind.u8 0, Value.int IntKind.u8 0, Value.int IntKind.u8 0, Value.int IntKind.u8 0, Value.int IntKind.u8 0, Value.int IntKind.u8 0, Value.int IntKind.u8 0, Value.int IntKind.u8 0, Value.int IntKind.u8 0, Value.int IntKind.u8 0, Value.int IntKind.u8 0, Value.int IntKind.u8 0, Value.int IntKind.u8 0, Value.int IntKind.u8 0, Value.int IntKind.u8 0, Value.int IntKind.u8 0, Value.int IntKind.u8 0, Value.int IntKind.u8 0, Value.int IntKind.u8 0], fl := true }
theorem i_139 : TabE Tryd.prog (139, t_139, false) := ⟨by kernel_rfl, fun h => by simp at h⟩
def t_140 : TyD := { und := TypeDesc.func #[119] #[3] false, size := 1, bytes := 8, zero := [Value.nilFunc], fl := false }
theorem i_140 : TabE Tryd.prog (140, t_140, false) := ⟨by kernel_rfl, fun h => by simp at h⟩
def t_141 : TyD := { und := TypeDesc.func #[78, 119] #[] false, size := 1, bytes := 8, zero := [Value.nilFunc], fl := false }
theorem i_141 : TabE Tryd.prog (141, t_141, false) := ⟨by kernel_rfl, fun h => by simp at h⟩
def t_143 : TyD := { und := TypeDesc.func #[78, 119, 3, 4, 4] #[78, 9] false, size := 1, bytes := 8, zero := [Value.nilFunc], fl := false }
theorem i_143 : TabE Tryd.prog (143, t_143, false) := ⟨by kernel_rfl, fun h => by simp at h⟩
def t_144 : TyD := { und := TypeDesc.array 256 5, size := 256, bytes := 256, zero := [Value.int IntKind.u8 0, Value.int IntKind.u8 0, Value.int IntKind.u8 0, Value.int IntKind.u8 0, Value.int IntKind.u8 0, Value.int IntKind.u8 0, Value.int IntKind.u8 0, Value.int IntKind.u8 0, Value.int IntKind.u8 0, Value.int IntKind.u8 0, Value.int IntKind.u8 0, Value.int IntKind.u8 0, Value.int IntKind.u8 0, Value.int IntKind.u8 0, Value.int IntKind.u8 0, Value.int IntKind.u8 0, Value.int IntKind.u8 0, Value.int IntKind.u8 0, Value.int IntKind.u8 0, Value.int IntKind.u8 0, Value.int IntKind.u8 0, Value.int IntKind.u8 0, Value.int IntKind.u8 0, Value.int IntKind.u8 0, Value.int IntKind.u8 0, Value.int IntKind.u8 0, Value.int IntKind.u8 0, Value.int IntKind.u8 0, Value.int IntKind.u8 0, Value.int IntKind.u8 0, Value.int IntKind.u8 0, Value.int IntKind.u8 0, Value.int IntKind.u8 0, Value.int IntKind.u8 0, Value.int IntKind.u8 0, Value.int IntKind.u8 0, Value.int IntKind.u8 0, Value.int IntKind.u8 0, Value.int IntKind.u8 0, Value.int IntKind.u8 0, Value.int IntKind.u8 0, Value.int IntKind.u8 0, Value.int IntKind.u8 0, Value.int IntKind.u8 0, Value.int IntKind.u8 0, Value.int IntKind.u8 0, Value.int IntKind.u8 0, Value.int IntKind.u8 0, Value.int IntKind.u8 0, Value.int IntKind.u8 0, Value.int IntKind.u8 0, Value.int IntKind.u8 0, Value.int IntKind.u8 0, Value.int IntKind.u8 0, Value.int IntKind.u8 0, Value.int IntKind.u8 0, Value.int IntKind.u8 0, Value.int IntKind.u8 0, Value.int IntKind.u8 0, Value.int IntKind.u8 0, Value.int IntKind.u8 0, Value.int IntKind.u8 0, Value.int IntKind.u8 0, Value.int IntKind.u8 0, Value.int IntKind.u8 0, Value.int IntKind.u8 0, Value.int IntKind.u8 0, Value.int IntKind.u8 0, Value.int IntKind.u8 0, Value.int IntKind.u8 0, Value.int IntKind.u8 0, Value.int IntKind.u8 0, Value.int IntKind.u8 0, Value.int IntKind.u8 0, Value.int IntKind.u8 0, Value.int IntKind.u8 0, Value.int IntKind.u8 0, Value.int IntKind.u8 0, Value.int IntKind.u8 0, Value.int IntKind.u8 0, Value.int IntKind.u8 0, Value.int IntKind.u8 0, Value.int IntKind.u8 0, Value.int IntKind.u8 0, Value.int IntKind.u8 0, Value.int IntKind.u8 0, Value.int IntKind.u8 0, Value.int IntKind.u8 0, Value.int IntKind.u8 0, Value.int IntKind.u8 0, Value.int IntKind.u8 0, Value.int IntKind.u8 0, Value.int IntKind.u8 0, Value.int IntKind.u8 0, Value.int IntKind.u8 0, Value.int IntKind.u8 0, Value.int IntKind.u8 0, Value.int IntKind.u8 0, Value.int IntKind.u8 0, Value.int IntKind.u8 0, Value.int IntKind.u8 0, Value.int IntKind.u8 0, Value.int IntKind.u8 0, Value.int IntKind.u8 0, Value.int IntKind.u8 0, Value.int IntKind.u8 0, Value.int IntKind.u8 0, Value.int IntKind.u8 0, Value.int IntKind.u8 0, Value.int IntKind.u8 0, Value.int IntKind.u8 0, Value.int IntKind.u8 0, Value.int IntKind.u8 0, Value.int IntKind.u8 0, Value.int IntKind.u8 0, Value.int IntKind.u8 0, Value.int IntKind.u8 0, Value.int IntKind.u8 0, Value.int IntKind.u8 0, Value.int IntKind.u8 0, Value.int IntKind.u8 0, Value.int IntKind.u8 0, Value.int IntKind.u8 0, Value.int IntKind.u8 0, Value.int IntKind.u8 0, Value.int IntKind.u8 0, Value.int IntKind.u8 0, Value.int IntKind.u8 0, Value.int IntKind.u8 0, Value.int IntKind.u8 0, Value.int IntKind.u8 0, Value.int IntKind.u8 0, Value.int IntKind.u8 0, Value.int IntKind.u8 0, Value.int IntKind.u8 0, Value.int IntKind.u8 0, Value.int IntKind.u8 0, Value.int IntKind.u8 0, Value.int IntKind.u8 0, Value.int IntKind.u8 0, Value.int IntKind.u8 0, Value.int IntKind.u8 0, Value.int IntKind.u8 0, Value.int IntKind.u8 0, Value.int IntKind.u8 0, Value.int IntKind.u8 0, Value.int IntKind.u8 0, Value.int IntKind.u8 0, Value.int IntKind.u8 0, Value.int IntKind.u8 0, Value.int IntKind.u8 0, Value.int IntKind.u8 0, Value.int IntKind.u8 0, Value.int IntKind.u8 0, Value.int IntKind.u8 0, Value.int IntKind.u8 0, Value.int IntKind.u8 0, Value.int IntKind.u8 0, Value.int IntKind.u8 0, Value.int IntKind.u8 0, Value.int IntKind.u8 0, Value.int IntKind.u8 0, Value.int IntKind.u8 0, Value.int IntKind.u8 0, Value.int IntKind.u8 0, Value.int IntKind.u8 0, Value.int IntKind.u8 0, Value.int IntKind.u8 0, Value.int IntKind.u8 0, Value.int IntKind.u8 0, Value.int IntKind.u8 0, Value.int IntKind.u8 0, Value.int IntKind.u8 0, Value.int IntKind.u8 0, Value.int IntKind.u8 0, Value.int IntKind.u8 0, Value.int IntKind.u8 0, Value.int IntKind.u8 0, Value.int IntKind.u8 0, Value.int IntKind.u8 0, Value.int IntKind.u8 0, Value.int IntKind.u8 0, Value.int IntKind.u8 0, Value.int IntKind.u8 0, Value.int IntKind.u8 0, Value.int IntKind.u8 0, Value.int IntKind.u8 0, Value.int IntKind.u8 0, Value.int IntKind.u8 0, Value.int IntKind.u8 0, Value.int IntKind.u8 0, Value.int IntKind.u8 0, Value.int IntKind.u8 0, Value.int IntKind.u8 0, Value.int IntKind.u8 0, Value.int IntKind.u8 0, Value.int IntKind.u8 0, Value.int IntKind.u8 0, Value.int IntKind.u8 0, Value.int IntKind.u8 0, Value.int IntKind.u8 0, Value.int IntKind.u8 0, Value.int IntKind.u8 0, Value.int IntKind.u8 0, Value.int IntKind.u8 0, Value.int IntKind.u8 0, Value.int IntKind.u8 0, Value.int IntKind.u8 0, Value.int IntKind.u8 0, Value.int IntKind.u8 0, Value.int IntKind.u8 0, Value.int IntKind.u8 0, Value.int IntKind.u8 0, Value.int IntKind.u8 0, Value.int IntKind.u8 0, Value.int IntKind.u8 0, Value.int IntKind.u8 0, Value.int IntKind.u8 0, Value.int IntKind.u8 0, Value.int IntKind.u8 0, Value.int IntKind.u8 0, Value.int IntKind.u8 0, Value.int IntKind.u8 0, Value.int IntKind.u8 0, Value.int IntKind.u8 0, Value.int IntKind.u8 0, Value.int IntKind.u8 0, Value.int IntKind.u8 0, Value.int IntKind.u8 0, Value.int IntKind.u8 0, Value.int IntKind.u8 0, Value.int IntKind.u8 0, Value.int IntKind.u8 0, Value.int IntKind.u8 0, Value.int IntKind.u8 0, Value.int IntKind.u8 0, Value.int IntKind.u8 0, Value.int IntKind.u8 0, Value.int IntKind.u8 0, Value.int IntKind.u8 0, Value.int IntKind.u8 0, Value.int IntKind.u8 0, Value.int IntKind.u8 0, Value.int IntKind.u8 0, Value.int IntKind.u8 0, Value.int IntKind.u8 0, Value.int IntKind.u8 0, Value.int IntKind.u8 0, Value.int IntKind.u8 0, Value.int IntKind.u8 0, Value.int IntKind.u8 0, Value.int IntKind.u8 0, Value.int IntKind.u8 0, Value.int IntKind.u8 0, Value.int IntKind.u8 0, Value.int IntKind.u8 0], fl := true }
theorem i_144 : TabE Tryd.prog (144, t_144, false) := ⟨by kernel_rfl, fun h => by simp at h⟩
def t_145 : TyD := { und := TypeDesc.struct #[{ name := "lo", type := 5, offset := 0, embedded := false, tag := "", pkgPath := "unicode/utf8", byteOffset := 0 }, { name := "hi", type := 5, offset := 1, embedded := false, tag := "", pkgPath := "unicode/utf8", byteOffset := 1 }], size := 2, bytes := 2, zero := [Value.int IntKind.u8 0, Value.int IntKind.u8 0], fl := true }
theorem i_145 : TabE Tryd.prog (145, t_145, true) := ⟨by kernel_rfl, fun _ => by kernel_rfl⟩
def t_146 : TyD := { und := TypeDesc.struct #[{ name := "lo", type := 5, offset := 0, embedded := false, tag := "", pkgPath := "unicode/utf8", byteOffset := 0 }, { name := "hi", type := 5, offset := 1, embedded := false, tag := "", pkgPath := "unicode/utf8", byteOffset := 1 }], size := 2, bytes := 2, zero := [Value.int IntKind.u8 0, Value.int IntKind.u8 0], fl := true }
theorem i_146 : TabE Tryd.prog (146, t_146, true) := ⟨by kernel_rfl, fun _ => by kernel_rfl⟩
def t_147 : TyD := { und := TypeDesc.array 16 146, size := 32, bytes := 32, zero := [Value.int IntKind.u8 0, Value.int IntKind.u8 0, Value.int IntKind.u8 0, Value.int IntKind.u8 0, Value.int IntKind.u8 0, Value.int IntKind.u8 0, Value.int IntKind.u8 0, Value.int IntKind.u8 0, Value.int IntKind.u8 0, Value.int IntKind.u8 0, Value.int IntKind.u8 0, Value.int IntKind.u8 0, Value.int IntKind.u8 0, Value.int IntKind.u8 0, Value.int IntKind.u8 0, Value.int IntKind.u8 0, Value.int IntKind.u8 0, Value.int IntKind.u8 0, Value.int IntKind.u8 0, Value.int IntKind.u8 0, Value.int IntKind.u8 0, Value.int IntKind.u8 0, Value.int IntKind.u8 0, Value.int IntKind.u8 0, Value.int IntKind.u8 0, Value.int IntKind.u8 0, Value.int IntKind.u8 0, Value.int IntKind.u8 0, Value.int IntKind.u8 0, Value.int IntKind.u8 0, Value.int IntKind.u8 0, Value.int IntKind.u8 0], fl := true }
theorem i_147 : TabE Tryd.prog (147, t_147, false) := ⟨by kernel_rfl, fun h => by simp at h⟩
def t_148 : TyD := { und := TypeDesc.int IntKind.u32, size := 1, bytes := 4, zero := [Value.int IntKind.u32 0], fl := true }
theorem i_148 : TabE Tryd.prog (148, t_148, false) := ⟨by kernel_rfl, fun h => by simp at h⟩
def t_150 : TyD := { und := TypeDesc.func #[9] #[148, 148] false, size := 1, bytes := 8, zero := [Value.nilFunc], fl := false }
theorem i_150 : TabE Tryd.prog (150, t_150, false) := ⟨by kernel_rfl, fun h => by simp at h⟩
def t_151 : TyD := { und := TypeDesc.pointer 153, size := 1, bytes := 8, zero := [Value.pointer none], fl := false }
theorem i_151 : TabE Tryd.prog (151, t_151, false) := ⟨by kernel_rfl, fun h => by simp at h⟩
def t_152 : TyD := { und := TypeDesc.struct #[{ name := "s", type := 9, offset := 0, embedded := false, tag := "", pkgPath := "errors", byteOffset := 0 }], size := 1, bytes := 16, zero := [Value.string ⟨#[]⟩], fl := true }
theorem i_152 : TabE Tryd.prog (152, t_152, true) := ⟨by kernel_rfl, fun _ => by kernel_rfl⟩
def t_153 : TyD := { und := TypeDesc.struct #[{ name := "s", type := 9, offset := 0, embedded := false, tag := "", pkgPath := "errors", byteOffset := 0 }], size := 1, bytes := 16, zero := [Value.string ⟨#[]⟩], fl := true }
theorem i_153 : TabE Tryd.prog (153, t_153, true) := ⟨by kernel_rfl, fun _ => by kernel_rfl⟩
def t_154 : TyD := { und := TypeDesc.func #[4] #[3] false, size := 1, bytes := 8, zero := [Value.nilFunc], fl := false }
theorem i_154 : TabE Tryd.prog (154, t_154, false) := ⟨by kernel_rfl, fun h => by simp at h⟩
def t_155 : TyD := { und := TypeDesc.array 20 119, size := 20, bytes := 160, zero := [Value.int IntKind.u64 0, Value.int IntKind.u64 0, Value.int IntKind.u64 0, Value.int IntKind.u64 0, Value.int IntKind.u64 0, Value.int IntKind.u64 0, Value.int IntKind.u64 0, Value.int IntKind.u64 0, Value.int IntKind.u64 0, Value.int IntKind.u64 0, Value.int IntKind.u64 0, Value.int IntKind.u64 0, Value.int IntKind.u64 0, Value.int IntKind.u64 0, Value.int IntKind.u64 0, Value.int IntKind.u64 0, Value.int IntKind.u64 0, Value.int IntKind.u64 0, Value.int IntKind.u64 0, Value.int IntKind.u64 0], fl := true }
theorem i_155 : TabE Tryd.prog (155, t_155, false) := ⟨by kernel_rfl, fun h => by simp at h⟩
def t_156 : TyD := { und := TypeDesc.array 65 5, size := 65, bytes := 65, zero := [Value.int IntKind.u8 0, Value.int IntKind.u8 0, Value.int IntKind.u8 0, Value.int IntKind.u8 0, Value.int IntKind.u8 0, Value.int IntKind.u8 0, Value.int IntKind.u8 0, Value.int IntKind.u8 0, Value.int IntKind.u8 0, Value.int IntKind.u8 0, Value.int IntKind.u8 0, Value.int IntKind.u8 0, Value.int IntKind.u8 0, Value.int IntKind.u8 0, Value.int IntKind.u8 0, Value.int IntKind.u8 0, Value.int IntKind.u8 0, Value.int IntKind.u8 0, Value.int IntKind.u8 0, Value.int IntKind.u8 0, Value.int IntKind.u8 0, Value.int IntKind.u8 0, Value.int IntKind.u8 0, Value.int IntKind.u8 0, Value.int IntKind.u8 0, Value.int IntKind.u8 0, Value.int IntKind.u8 0, Value.int IntKind.u8 0, Value.int IntKind.u8 0, Value.int IntKind.u8 0, Value.int IntKind.u8 0, Value.int IntKind.u8 0, Value.int IntKind.u8 0, Value.int IntKind.u8 0, Value.int IntKind.u8 0, Value.int IntKind.u8 0, Value.int IntKind.u8 0, Value.int IntKind.u8 0, Value.int IntKind.u8 0, Value.int IntKind.u8 0, Value.int IntKind.u8 0, Value.int IntKind.u8 0, Value.int IntKind.u8 0, Value.int IntKind.u8 0, Value.int IntKind.u8 0, Value.int IntKind.u8 0, Value.int IntKind.u8 0, Value.int IntKind.u8 0, Value.int IntKind.u8 0, Value.int IntKind.u8 0, Value.int IntKind.u8 0, Value.int IntKind.u8 0, Value.int IntKind.u8 0, Value.int IntKind.u8 0, Value.int IntKind.u8 0, Value.int IntKind.u8 0, Value.int IntKind.u8 0, Value.int IntKind.u8 0, Value.int IntKind.u8 0, Value.int IntKind.u8 0, Value.int IntKind.u8 0, Value.int IntKind.u8 0, Value.int IntKind.u8 0, Value.int IntKind.u8 0, Value.int IntKind.u8 0], fl := true }
theorem i_156 : TabE Tryd.prog (156, t_156, false) := ⟨by kernel_rfl, fun h => by simp at h⟩
def t_157 : TyD := { und := TypeDesc.func #[3] #[4] false, size := 1, bytes := 8, zero := [Value.nilFunc], fl := false }
theorem i_157 : TabE Tryd.prog (157, t_157, false) := ⟨by kernel_rfl, fun h => by simp at h⟩
def t_158 : TyD := { und := TypeDesc.func #[122] #[3] false, size := 1, bytes := 8, zero := [Value.nilFunc], fl := false }
theorem i_158 : TabE Tryd.prog (158, t_158, false) := ⟨by kernel_rfl, fun h => by simp at h⟩
def t_159 : TyD := { und := TypeDesc.func #[148] #[3] false, size := 1, bytes := 8, zero := [Value.nilFunc], fl := false }
theorem i_159 : TabE Tryd.prog (159, t_159, false) := ⟨by kernel_rfl, fun h => by simp at h⟩
def t_160 : TyD := { und := TypeDesc.array 32 5, size := 32, bytes := 32, zero := [Value.int IntKind.u8 0, Value.int IntKind.u8 0, Value.int IntKind.u8 0, Value.int IntKind.u8 0, Value.int IntKind.u8 0, Value.int IntKind.u8 0, Value.int IntKind.u8 0, Value.int IntKind.u8 0, Value.int IntKind.u8 0, Value.int IntKind.u8 0, Value.int IntKind.u8 0, Value.int IntKind.u8 0, Value.int IntKind.u8 0, Value.int IntKind.u8 0, Value.int IntKind.u8 0, Value.int IntKind.u8 0, Value.int IntKind.u8 0, Value.int IntKind.u8 0, Value.int IntKind.u8 0, Value.int IntKind.u8 0, Value.int IntKind.u8 0, Value.int IntKind.u8 0, Value.int IntKind.u8 0, Value.int IntKind.u8 0, Value.int IntKind.u8 0, Value.int IntKind.u8 0, Value.int IntKind.u8 0, Value.int IntKind.u8 0, Value.int IntKind.u8 0, Value.int IntKind.u8 0, Value.int IntKind.u8 0, Value.int IntKind.u8 0], fl := true }
theorem i_160 : TabE Tryd.prog (160, t_160, false) := ⟨by kernel_rfl, fun h => by simp at h⟩
def t_161 : TyD := { und := TypeDesc.array 64 5, size := 64, bytes := 64, zero := [Value.int IntKind.u8 0, Value.int IntKind.u8 0, Value.int IntKind.u8 0, Value.int IntKind.u8 0, Value.int IntKind.u8 0, Value.int IntKind.u8 0, Value.int IntKind.u8 0, Value.int IntKind.u8 0, Value.int IntKind.u8 0, Value.int IntKind.u8 0, Value.int IntKind.u8 0, Value.int IntKind.u8 0, Value.int IntKind.u8 0, Value.int IntKind.u8 0, Value.int IntKind.u8 0, Value.int IntKind.u8 0, Value.int IntKind.u8 0, Value.int IntKind.u8 0, Value.int IntKind.u8 0, Value.int IntKind.u8 0, Value.int IntKind.u8 0, Value.int IntKind.u8 0, Value.int IntKind.u8 0, Value.int IntKind.u8 0, Value.int IntKind.u8 0, Value.int IntKind.u8 0, Value.int IntKind.u8 0, Value.int IntKind.u8 0, Value.int IntKind.u8 0, Value.int IntKind.u8 0, Value.int IntKind.u8 0, Value.int IntKind.u8 0, Value.int IntKind.u8 0, Value.int IntKind.u8 0, Value.int IntKind.u8 0, Value.int IntKind.u8 0, Value.int IntKind.u8 0, Value.int IntKind.u8 0, Value.int IntKind.u8 0, Value.int IntKind.u8 0, Value.int IntKind.u8 0, Value.int IntKind.u8 0, Value.int IntKind.u8 0, Value.int IntKind.u8 0, Value.int IntKind.u8 0, Value.int IntKind.u8 0, Value.int IntKind.u8 0, Value.int IntKind.u8 0, Value.int IntKind.u8 0, Value.int IntKind.u8 0, Value.int IntKind.u8 0, Value.int IntKind.u8 0, Value.int IntKind.u8 0, Value.int IntKind.u8 0, Value.int IntKind.u8 0, Value.int IntKind.u8 0, Value.int IntKind.u8 0, Value.int IntKind.u8 0, Value.int IntKind.u8 0, Value.int IntKind.u8 0, Value.int IntKind.u8 0, Value.int IntKind.u8 0, Value.int IntKind.u8 0, Value.int IntKind.u8 0], fl := true }
theorem i_161 : TabE Tryd.prog (161, t_161, false) := ⟨by kernel_rfl, fun h => by simp at h⟩
def t_162 : TyD := { und := TypeDesc.struct #[{ name := "_interface", type := 17, offset := 0, embedded := false, tag := "", pkgPath := "runtime", byteOffset := 0 }, { name := "concrete", type := 17, offset := 1, embedded := false, tag := "", pkgPath := "runtime", byteOffset := 8 }, { name := "asserted", type := 17, offset := 2, embedded := false, tag := "", pkgPath := "runtime", byteOffset := 16 }, { name := "missingMethod", type := 9, offset := 3, embedded := false, tag := "", pkgPath := "runtime", byteOffset := 24 }], size := 4, bytes := 40, zero := [Value.pointer none, Value.pointer none, Value.pointer none, Value.string ⟨#[]⟩], fl := false }
theorem i_162 : TabE Tryd.prog (162, t_162, false) := ⟨by kernel_rfl, fun h => by simp at h⟩
def t_163 : TyD := { und := TypeDesc.struct #[{ name := "_interface", type := 17, offset := 0, embedded := false, tag := "", pkgPath := "runtime", byteOffset := 0 }, { name := "concrete", type := 17, offset := 1, embedded := false, tag := "", pkgPath := "runtime", byteOffset := 8 }, { name := "asserted", type := 17, offset := 2, embedded := false, tag := "", pkgPath := "runtime", byteOffset := 16 }, { name := "missingMethod", type := 9, offset := 3, embedded := false, tag := "", pkgPath := "runtime", byteOffset := 24 }], size := 4, bytes := 40, zero := [Value.pointer none, Value.pointer none, Value.pointer none, Value.string ⟨#[]⟩], fl := false }
theorem i_163 : TabE Tryd.prog (163, t_163, false) := ⟨by kernel_rfl, fun h => by simp at h⟩
def t_164 : TyD := { und := TypeDesc.array 0 16, size := 0, bytes := 0, zero := [], fl := false }
theorem i_164 : TabE Tryd.prog (164, t_164, false) := ⟨by kernel_rfl, fun h => by simp at h⟩
def t_165 : TyD := { und := TypeDesc.struct #[{ name := "_", type := 164, offset := 0, embedded := false, tag := "", pkgPath := "runtime", byteOffset := 0 }], size := 0, bytes := 0, zero := [], fl := false }
theorem i_165 : TabE Tryd.prog (165, t_165, false) := ⟨by kernel_rfl, fun h => by simp at h⟩
def t_166 : TyD := { und := TypeDesc.struct #[{ name := "_", type := 164, offset := 0, embedded := false, tag := "", pkgPath := "runtime", byteOffset := 0 }], size := 0, bytes := 0, zero := [], fl := false }
theorem i_166 : TabE Tryd.prog (166, t_166, false) := ⟨by kernel_rfl, fun h => by simp at h⟩
def t_167 : TyD := { und := TypeDesc.func #[] #[3] false, size := 1, bytes := 8, zero := [Value.nilFunc], fl := false }
theorem i_167 : TabE Tryd.prog (167, t_167, false) := ⟨by kernel_rfl, fun h => by simp at h⟩
def t_168 : TyD := { und := TypeDesc.int IntKind.u8, size := 1, bytes := 1, zero := [Value.int IntKind.u8 0], fl := true }
theorem i_168 : TabE Tryd.prog (168, t_168, false) := ⟨by kernel_rfl, fun h => by simp at h⟩
def t_169 : TyD := { und := TypeDesc.int IntKind.u8, size := 1, bytes := 1, zero := [Value.int IntKind.u8 0], fl := true }
theorem i_169 : TabE Tryd.prog (169, t_169, false) := ⟨by kernel_rfl, fun h => by simp at h⟩
def t_170 : TyD := { und := TypeDesc.func #[136, 136] #[4] false, size := 1, bytes := 8, zero := [Value.nilFunc], fl := false }
theorem i_170 : TabE Tryd.prog (170, t_170, false) := ⟨by kernel_rfl, fun h => by simp at h⟩
def t_171 : TyD := { und := TypeDesc.int IntKind.i32, size := 1, bytes := 4, zero := [Value.int IntKind.i32 0], fl := true }
theorem i_171 : TabE Tryd.prog (171, t_171, false) := ⟨by kernel_rfl, fun h => by simp at h⟩
def t_172 : TyD := { und := TypeDesc.int IntKind.i32, size := 1, bytes := 4, zero := [Value.int IntKind.i32 0], fl := true }
theorem i_172 : TabE Tryd.prog (172, t_172, false) := ⟨by kernel_rfl, fun h => by simp at h⟩
def t_173 : TyD := { und := TypeDesc.struct #[{ name := "Size_", type := 12, offset := 0, embedded := false, tag := "", pkgPath := "", byteOffset := 0 }, { name := "PtrBytes", type := 12, offset := 1, embedded := false, tag := "", pkgPath := "", byteOffset := 8 }, { name := "Hash", type := 148, offset := 2, embedded := false, tag := "", pkgPath := "", byteOffset := 16 }, { name := "TFlag", type := 168, offset := 3, embedded := false, tag := "", pkgPath := "", byteOffset := 20 }, { name := "Align_", type := 5, offset := 4, embedded := false, tag := "", pkgPath := "", byteOffset := 21 }, { name := "FieldAlign_", type := 5, offset := 5, embedded := false, tag := "", pkgPath := "", byteOffset := 22 }, { name := "Kind_", type := 169, offset := 6, embedded := false, tag := "", pkgPath := "", byteOffset := 23 }, { name := "Equal", type := 170, offset := 7, embedded := false, tag := "", pkgPath := "", byteOffset := 24 }, { name := "GCData", type := 128, offset := 8, embedded := false, tag := "", pkgPath := "", byteOffset := 32 }, { name := "Str", type := 171, offset := 9, embedded := false, tag := "", pkgPath := "", byteOffset := 40 }, { name := "PtrToThis", type := 172, offset := 10, embedded := false, tag := "", pkgPath := "", byteOffset := 44 }], size := 11, bytes := 48, zero := [Value.int IntKind.u64 0, Value.int IntKind.u64 0, Value.int IntKind.u32 0, Value.int IntKind.u8 0, Value.int IntKind.u8 0, Value.int IntKind.u8 0, Value.int IntKind.u8 0, Value.nilFunc, Value.pointer none, Value.int IntKind.i32 0, Value.int IntKind.i32 0], fl := false }
theorem i_173 : TabE Tryd.prog (173, t_173, false) := ⟨by kernel_rfl, fun h => by simp at h⟩
def t_174 : TyD := { und := TypeDesc.struct #[{ name := "Size_", type := 12, offset := 0, embedded := false, tag := "", pkgPath := "", byteOffset := 0 }, { name := "PtrBytes", type := 12, offset := 1, embedded := false, tag := "", pkgPath := "", byteOffset := 8 }, { name := "Hash", type := 148, offset := 2, embedded := false, tag := "", pkgPath := "", byteOffset := 16 }, { name := "TFlag", type := 168, offset := 3, embedded := false, tag := "", pkgPath := "", byteOffset := 20 }, { name := "Align_", type := 5, offset := 4, embedded := false, tag := "", pkgPath := "", byteOffset := 21 }, { name := "FieldAlign_", type := 5, offset := 5, embedded := false, tag := "", pkgPath := "", byteOffset := 22 }, { name := "Kind_", type := 169, offset := 6, embedded := false, tag := "", pkgPath := "", byteOffset := 23 }, { name := "Equal", type := 170, offset := 7, embedded := false, tag := "", pkgPath := "", byteOffset := 24 }, { name := "GCData", type := 128, offset := 8, embedded := false, tag := "", pkgPath := "", byteOffset := 32 }, { name := "Str", type := 171, offset := 9, embedded := false, tag := "", pkgPath := "", byteOffset := 40 }, { name := "PtrToThis", type := 172, offset := 10, embedded := false, tag := "", pkgPath := "", byteOffset := 44 }], size := 11, bytes := 48, zero := [Value.int IntKind.u64 0, Value.int IntKind.u64 0, Value.int IntKind.u32 0, Value.int IntKind.u8 0, Value.int IntKind.u8 0, Value.int IntKind.u8 0, Value.int IntKind.u8 0, Value.nilFunc, Value.pointer none, Value.int IntKind.i32 0, Value.int IntKind.i32 0], fl := false }
theorem i_174 : TabE Tryd.prog (174, t_174, false) := ⟨by kernel_rfl, fun h => by simp at h⟩
def t_175 : TyD := { und := TypeDesc.func #[29] #[2, 4] false, size := 1, bytes := 8, zero := [Value.nilFunc], fl := false }
theorem i_175 : TabE Tryd.prog (175, t_175, false) := ⟨by kernel_rfl, fun h => by simp at h⟩
def tyTab : List (Nat × TyD × Bool) := [(1, t_1, false), (2, t_2, false), (3, t_3, false), (4, t_4, false), (5, t_5, false), (6, t_6, false), (7, t_7, true), (8, t_8, true), (9, t_9, false), (10, t_10, false), (11, t_11, false), (12, t_12, false), (13, t_13, false), (14, t_14, false), (15, t_15, false), (16, t_16, false), (17, t_17, false), (18, t_18, false), (19, t_19, false), (21, t_21, false), (22, t_22, false), (24, t_24, false), (25, t_25, false), (26, t_26, false), (27, t_27, false), (28, t_28, true), (29, t_29, true), (30, t_30, true), (31, t_31, true), (32, t_32, true), (33, t_33, true), (34, t_34, true), (35, t_35, true), (37, t_37, false), (38, t_38, false), (39, t_39, false), (40, t_40, false), (42, t_42, false), (43, t_43, false), (44, t_44, false), (45, t_45, true), (46, t_46, true), (47, t_47, false), (48, t_48, false), (50, t_50, false), (51, t_51, false), (52, t_52, false), (53, t_53, false), (54, t_54, false), (55, t_55, false), (57, t_57, false), (59, t_59, false), (60, t_60, false), (61, t_61, false), (62, t_62, false), (64, t_64, false), (65, t_65, false), (66, t_66, false), (67, t_67, false), (68, t_68, false), (69, t_69, false), (70, t_70, false), (71, t_71, false), (72, t_72, false), (76, t_76, false), (77, t_77, false), (78, t_78, false), (79, t_79, false), (80, t_80, false), (81, t_81, false), (82, t_82, false), (83, t_83, false), (85, t_85, false), (87, t_87, false), (88, t_88, false), (89, t_89, false), (90, t_90, false), (91, t_91, false), (92, t_92, false), (93, t_93, true), (94, t_94, true), (95, t_95, false), (96, t_96, false), (97, t_97, false), (98, t_98, false), (99, t_99, false), (100, t_100, false), (101, t_101, false), (102, t_102, true), (103, t_103, true), (104, t_104, false), (106, t_106, false), (107, t_107, false), (108, t_108, false), (109, t_109, false), (110, t_110, false), (111, t_111, false), (112, t_112, false), (113, t_113, false), (114, t_114, false), (116, t_116, false), (117, t_117, false), (118, t_118, false), (119, t_119, false), (121, t_121, false), (122, t_122, false), (123, t_123, false), (124, t_124, false), (125, t_125, false), (126, t_126, false), (127, t_127, false), (128, t_128, false), (129, t_129, false), (130, t_130, false), (131, t_131, false), (132, t_132, false), (133, t_133, false), (134, t_134, false), (135, t_135, false), (136, t_136, false), (137, t_137, false), (138, t_138, false), (139, t_139, false), (140, t_140, false), (141, t_141, false), (143, t_143, false), (144, t_144, false), (145, t_145, true), (146, t_146, true), (147, t_147, false), (148, t_148, false), (150, t_150, false), (151, t_151, false), (152, t_152, true), (153, t_153, true), (154, t_154, false), (155, t_155, false), (156, t_156, false), (157, t_157, false), (158, t_158, false), (159, t_159, false), (160, t_160, false), (161, t_161, false), (162, t_162, false), (163, t_163, false), (164, t_164, false), (165, t_165, false), (166, t_166, false), (167, t_167, false), (168, t_168, false), (169, t_169, false), (170, t_170, false), (171, t_171, false), (172, t_172, false), (173, t_173, false), (174, t_174, false), (175, t_175, false)]
@[reducible] def T0 : Ty := lookT tyTab
@[reducible] def Q0 : Nat → Bool := lookQ tyTab
theorem tabOk : TabOk Tryd.prog T0 Q0 := tab_ok (l := tyTab) (⟨i_1, i_2, i_3, i_4, i_5, i_6, i_7, i_8, i_9, i_10, i_11, i_12, i_13, i_14, i_15, i_16, i_17, i_18, i_19, i_21, i_22, i_24, i_25, i_26, i_27, i_28, i_29, i_30, i_31, i_32, i_33, i_34, i_35, i_37, i_38, i_39, i_40, i_42, i_43, i_44, i_45, i_46, i_47, i_48, i_50, i_51, i_52, i_53, i_54, i_55, i_57, i_59, i_60, i_61, i_62, i_64, i_65, i_66, i_67, i_68, i_69, i_70, i_71, i_72, i_76, i_77, i_78, i_79, i_80, i_81, i_82, i_83, i_85, i_87, i_88, i_89, i_90, i_91, i_92, i_93, i_94, i_95, i_96, i_97, i_98, i_99, i_100, i_101, i_102, i_103, i_104, i_106, i_107, i_108, i_109, i_110, i_111, i_112, i_113, i_114, i_116, i_117, i_118, i_119, i_121, i_122, i_123, i_124, i_125, i_126, i_127, i_128, i_129, i_130, i_131, i_132, i_133, i_134, i_135, i_136, i_137, i_138, i_139, i_140, i_141, i_143, i_144, i_145, i_146, i_147, i_148, i_150, i_151, i_152, i_153, i_154, i_155, i_156, i_157, i_158, i_159, i_160, i_161, i_162, i_163, i_164, i_165, i_166, i_167, i_168, i_169, i_170, i_171, i_172, i_173, i_174, i_175, trivial⟩)
end Go.Proofs.YtamachahlhlhlaaDoor.Eng
set_option linter.unusedVariables false
set_option linter.unusedSimpArgs false
namespace Go.Proofs.YtamachahlhlhlaaDoor.Eng
open Go Go.RowKit
set_option maxRecDepth 100000
theorem tmod_lt {a b : Int} (h : b ≠ 0) : (a.tmod b).natAbs < b.natAbs := by
  rw [Int.natAbs_tmod]; exact Nat.mod_lt _ (by omega)
theorem gcd_tmod {a b : Int} : Int.gcd b (a.tmod b) = Int.gcd a b := by
  simp only [Int.gcd, Int.natAbs_tmod]
  rw [Nat.gcd_comm, ← Nat.gcd_rec, Nat.gcd_comm]
theorem seg_get {α : Type} {l : List α} {s n i : Nat} {a : α} (h : (seg l s n)[i]? = some a) : l[s + i]? = some a ∧ i < n := by
  unfold seg at h
  rw [List.getElem?_take] at h
  split at h
  · rw [List.getElem?_drop] at h; exact ⟨h, by assumption⟩
  · simp at h
theorem seg_len {α : Type} {l : List α} {s n : Nat} (h : s + n ≤ l.length) : (seg l s n).length = n := by
  simp [seg]; omega
theorem atL_i {α : Type} {l : List α} {s n i : Nat} {a : α} {K : α → Prop} (ha : (seg l s n)[i]? = some a) (h : K a) : atL l (s + ((i : Nat) : Int).toNat) K :=
  atL_iff.2 ⟨a, by simpa using (seg_get ha).1, h⟩
theorem atL_0 {α : Type} {l : List α} {i : Nat} {a : α} {K : α → Prop} (ha : l[i]? = some a) (h : K a) : atL l (0 + ((i : Nat) : Int).toNat) K :=
  atL_iff.2 ⟨a, by simpa using ha, h⟩
theorem atL_n {α : Type} {l : List α} {i : Nat} {a : α} {K : α → Prop} (ha : l[i]? = some a) (h : K a) : atL l ((i : Nat) : Int).toNat K :=
  atL_iff.2 ⟨a, by simpa using ha, h⟩
theorem atL_p {α : Type} {l : List α} {i : Nat} {a : α} {K : α → Prop} (ha : l[i]? = some a) (h : K a) : atL l i K := atL_iff.2 ⟨a, ha, h⟩
theorem seg_all {α : Type} (l : List α) : seg l 0 l.length = l := by simp [seg]
theorem seg_full {α : Type} {l : List α} {n : Nat} (h : l.length = n) : seg l 0 n = l := by simp [seg, ← h]
theorem get_some {α : Type} {l : List α} {i : Nat} (h : i < l.length) : ∃ a, l[i]? = some a := ⟨l[i], by simp [h]⟩
/-- The first place where p holds, or -1. -/
def findI {α : Type} (p : α → Bool) (l : List α) : Int := if l.any p = true then (l.findIdx p : Int) else -1
theorem findI_none {α : Type} {p : α → Bool} {l : List α} (h : ∀ (j : Nat) a, l[j]? = some a → p a = false) : findI p l = -1 := by
  unfold findI
  rw [if_neg]
  rw [List.any_eq_true]
  rintro ⟨a, ha, hp⟩
  obtain ⟨j, hj⟩ := List.getElem?_of_mem ha
  rw [h j a hj] at hp; simp at hp
theorem findI_some {α : Type} {p : α → Bool} {l : List α} {i : Nat} {a : α} (ha : l[i]? = some a) (hp : p a = true) (h : ∀ (j : Nat) a, j < i → l[j]? = some a → p a = false) : findI p l = i := by
  unfold findI
  rw [if_pos (List.any_eq_true.2 ⟨a, List.mem_of_getElem? ha, hp⟩)]
  obtain ⟨hi, e⟩ := List.getElem?_eq_some_iff.1 ha
  have : l.findIdx p = i := by
    rw [List.findIdx_eq hi]
    exact ⟨by rw [e]; exact hp, fun j hj => h j _ hj (by simp)⟩
  rw [this]
theorem findI_any {α : Type} (p : α → Bool) (l : List α) : decide (0 ≤ findI p l) = l.any p := by
  unfold findI
  split
  · rename_i h; rw [h]; simp
  · rename_i h
    have : l.any p = false := by simpa using h
    rw [this]; rfl
theorem app_take {α : Type} {D : List α} {i : Nat} {w : α} (h : D[i]? = some w) : seg (D.take i) 0 i ++ seg [w] 0 1 = D.take (i + 1) := by
  have hl := (List.getElem?_eq_some_iff.1 h).1
  rw [seg_full (by rw [List.length_take]; omega), List.take_add_one, h]; rfl
theorem all_yes {α : Type} {p : α → Bool} {L : List α} {n : Nat} (hn : L.length ≤ n) (h : ∀ (j : Nat) a, j < n → L[j]? = some a → p a = true) : L.all p = true := by
  rw [List.all_eq_true]
  intro a ha
  obtain ⟨j, hj⟩ := List.getElem?_of_mem ha
  exact h j a (by have := (List.getElem?_eq_some_iff.1 hj).1; omega) hj
theorem all_no {α : Type} {p : α → Bool} {L : List α} {i : Nat} {a : α} (ha : L[i]? = some a) (hp : p a = false) : L.all p = false := by
  rw [List.all_eq_false]
  exact ⟨a, List.mem_of_getElem? ha, by simp [hp]⟩
/-- One more place where something holds. -/
theorem upto_step {α : Type} {p : α → Prop} {L : List α} {i : Nat} {a : α} (ha : L[i]? = some a) (hp : p a) (h : ∀ (j : Nat) b, j < i → L[j]? = some b → p b) : ∀ (j : Nat) b, j < i + 1 → L[j]? = some b → p b := fun j b hj hb => by
  by_cases e : j < i
  · exact h j b e hb
  · obtain rfl : j = i := by omega
    rw [ha] at hb; obtain rfl := Option.some.inj hb; exact hp
/-- Tests whose outcome is known. -/
theorem splitT_of {b : Bool} {A B : Prop} (h : b = true) (k : A) : splitB b A B := by subst h; exact splitT k
theorem splitF_of {b : Bool} {A B : Prop} (h : b = false) (k : B) : splitB b A B := by subst h; exact splitF k
def s_within : Spec := fun args S => match args, S with
  | [.int .i64 n, .int .i64 a, .int .i64 b], [] => ⟨True, .bool (decide (a ≤ n ∧ n ≤ b)), []⟩
  | _, _ => noSpec
theorem ok_within : SpecOk Tryd.prog 21 s_within := by
  intro args S h; unfold s_within at h ⊢; (split at h <;> first | exact False.elim h | skip)
  dsimp only at h ⊢
  refine funW tabOk (E := []) trivial [] (k := 0) (fn := Tryd.f21) rfl rfl rfl rfl rfl rfl ?_
  (repeat' ((try (conv => whnf)); first | (with_reducible first | refine And.intro ?_ ?_ | refine WX.of ?_) | exact zc | ((with_reducible refine VC.mk ?_); exact zw) | (with_reducible first | refine splitT ?_ | refine splitF ?_) | ((with_reducible refine splitM.mk (fun hsm => ?_) (fun hsm => ?_)) <;> (try exact zx)) | ((with_reducible refine splitB.mk (fun h => ?_) (fun h => ?_)) <;> (try simp only [zs, ne_eq] at h) <;> (try simp (disch := omega) only [w64] at h) <;> (try exact zx)) | (with_reducible intro hz; (try exact absurd hz (Nat.succ_ne_zero _)))))
  all_goals (first | exact ⟨rfl⟩ | (refine ⟨?_⟩; simp_all; done) | (refine ⟨?_⟩; simp_all; omega))
theorem ok_l00In : SpecOk Tryd.prog 16 s_within := by
  intro args S h; unfold s_within at h ⊢; (split at h <;> first | exact False.elim h | skip)
  dsimp only at h ⊢
  refine funW tabOk (E := []) trivial [] (k := 0) (fn := Tryd.f16) rfl rfl rfl rfl rfl rfl ?_
  (repeat' ((try (conv => whnf)); first | (with_reducible first | refine And.intro ?_ ?_ | refine WX.of ?_) | exact zc | ((with_reducible refine VC.mk ?_); exact zw) | (with_reducible first | refine splitT ?_ | refine splitF ?_) | ((with_reducible refine splitM.mk (fun hsm => ?_) (fun hsm => ?_)) <;> (try exact zx)) | ((with_reducible refine splitB.mk (fun h => ?_) (fun h => ?_)) <;> (try simp only [zs, ne_eq] at h) <;> (try simp (disch := omega) only [w64] at h) <;> (try exact zx)) | (with_reducible intro hz; (try exact absurd hz (Nat.succ_ne_zero _)))))
  all_goals (first | exact ⟨rfl⟩ | (refine ⟨?_⟩; simp_all; done) | (refine ⟨?_⟩; simp_all; omega))
/-- The sizes of all elements. -/
def tot {α : Type} (f : α → Nat) (l : List α) : Nat := (l.map f).sum
def s_gcd : Spec := fun args S => match args, S with
  | [.int .i64 a, .int .i64 b], [] => ⟨-9223372036854775808 < a ∧ a < 9223372036854775808 ∧ -9223372036854775808 < b ∧ b < 9223372036854775808, .int .i64 (Int.gcd a b), []⟩
  | _, _ => noSpec
theorem ok_gcd : SpecOk Tryd.prog 94 s_gcd := by
  intro args S h; unfold s_gcd at h ⊢; (split at h <;> first | exact False.elim h | skip)
  dsimp only at h ⊢
  rename_i a b
  refine funW tabOk (E := []) trivial [] (k := 0) (fn := Tryd.f94) rfl rfl rfl rfl rfl rfl ?_
  (repeat' ((try (conv => whnf)); first | (with_reducible first | refine And.intro ?_ ?_ | refine WX.of ?_) | exact zc | ((with_reducible refine VC.mk ?_); exact zw) | (with_reducible first | refine splitT ?_ | refine splitF ?_) | ((with_reducible refine splitM.mk (fun hsm => ?_) (fun hsm => ?_)) <;> (try exact zx)) | ((with_reducible refine splitB.mk (fun h => ?_) (fun h => ?_)) <;> (try simp only [zs, ne_eq] at h) <;> (try simp (disch := omega) only [w64] at h) <;> (try exact zx)) | (with_reducible intro hz; (try exact absurd hz (Nat.succ_ne_zero _)))))
  refine loopW tabOk (E := []) trivial [] (σ := Int × Int) (fun s => [(0, .int .i64 s.1), (1, .int .i64 s.2)]) (fun _ => []) (fun s => s.2.natAbs) (fun s => Int.gcd s.1 s.2 = Int.gcd a b ∧ -9223372036854775808 < s.1 ∧ s.1 < 9223372036854775808 ∧ -9223372036854775808 < s.2 ∧ s.2 < 9223372036854775808) (a, b) ⟨rfl, h⟩ ?_ ?_
  · (repeat' ((try (conv => whnf)); first | (with_reducible first | refine And.intro ?_ ?_ | refine WX.of ?_) | exact zc | ((with_reducible refine VC.mk ?_); exact zw) | (with_reducible first | refine splitT ?_ | refine splitF ?_) | ((with_reducible refine splitM.mk (fun hsm => ?_) (fun hsm => ?_)) <;> (try exact zx)) | ((with_reducible refine splitB.mk (fun h => ?_) (fun h => ?_)) <;> (try simp only [zs, ne_eq] at h) <;> (try simp (disch := omega) only [w64] at h) <;> (try exact zx)) | (with_reducible intro hz; (try exact absurd hz (Nat.succ_ne_zero _)))))
  · rintro ⟨x, y⟩ ⟨hg, hr⟩
    dsimp only at hg hr
    (repeat' ((try (conv => whnf)); first | (with_reducible first | refine And.intro ?_ ?_ | refine WX.of ?_) | exact zc | ((with_reducible refine VC.mk ?_); exact zw) | (with_reducible first | refine splitT ?_ | refine splitF ?_) | ((with_reducible refine splitM.mk (fun hsm => ?_) (fun hsm => ?_)) <;> (try exact zx)) | ((with_reducible refine splitB.mk (fun h => ?_) (fun h => ?_)) <;> (try simp only [zs, ne_eq] at h) <;> (try simp (disch := omega) only [w64] at h) <;> (try exact zx)) | (with_reducible intro hz; (try exact absurd hz (Nat.succ_ne_zero _)))))
    · have := tmod_lt (a := x) h
      refine ⟨(y, x.tmod y), this, ⟨by rw [← hg]; exact gcd_tmod, ?_⟩, ?_⟩
      · dsimp only; omega
      · (repeat' ((try (conv => whnf)); first | (with_reducible first | refine And.intro ?_ ?_ | refine WX.of ?_) | exact zc | ((with_reducible refine VC.mk ?_); exact zw) | (with_reducible first | refine splitT ?_ | refine splitF ?_) | ((with_reducible refine splitM.mk (fun hsm => ?_) (fun hsm => ?_)) <;> (try exact zx)) | ((with_reducible refine splitB.mk (fun h => ?_) (fun h => ?_)) <;> (try simp only [zs, ne_eq] at h) <;> (try simp (disch := omega) only [w64] at h) <;> (try exact zx)) | (with_reducible intro hz; (try exact absurd hz (Nat.succ_ne_zero _)))))
    · subst h
      simp at hg
      dsimp only
      rw [w64 (by omega)]
      refine ⟨?_⟩
      rw [← hg]
      congr 1
      split <;> omega
def s_abs : Spec := fun args S => match args, S with
  | [.int .i64 n], [] => ⟨-9223372036854775808 < n ∧ n < 9223372036854775808, .int .i64 (n.natAbs : Int), []⟩
  | _, _ => noSpec
theorem ok_l01Abs : SpecOk Tryd.prog 69 s_abs := by
  intro args S h; unfold s_abs at h ⊢; (split at h <;> first | exact False.elim h | skip)
  dsimp only at h ⊢
  refine funW tabOk (E := []) trivial [] (k := 0) (fn := Tryd.f69) rfl rfl rfl rfl rfl rfl ?_
  (repeat' ((try (conv => whnf)); first | (with_reducible first | refine And.intro ?_ ?_ | refine WX.of ?_) | exact zc | ((with_reducible refine VC.mk ?_); exact zw) | (with_reducible first | refine splitT ?_ | refine splitF ?_) | ((with_reducible refine splitM.mk (fun hsm => ?_) (fun hsm => ?_)) <;> (try exact zx)) | ((with_reducible refine splitB.mk (fun h => ?_) (fun h => ?_)) <;> (try simp only [zs, ne_eq] at h) <;> (try simp (disch := omega) only [w64] at h) <;> (try exact zx)) | (with_reducible intro hz; (try exact absurd hz (Nat.succ_ne_zero _)))))
def s_gcdN : Spec := fun args S => match args, S with
  | [.int .i64 a, .int .i64 b], [] => ⟨0 ≤ a ∧ a < 9223372036854775808 ∧ 0 ≤ b ∧ b < 9223372036854775808, .int .i64 (Int.gcd a b), []⟩
  | _, _ => noSpec
theorem ok_l01Gcd : SpecOk Tryd.prog 68 s_gcdN := by
  intro args S h; unfold s_gcdN at h ⊢; (split at h <;> first | exact False.elim h | skip)
  dsimp only at h ⊢
  rename_i a b
  refine funW tabOk (E := []) trivial [] (k := 0) (fn := Tryd.f68) rfl rfl rfl rfl rfl rfl ?_
  (repeat' ((try (conv => whnf)); first | (with_reducible first | refine And.intro ?_ ?_ | refine WX.of ?_) | exact zc | ((with_reducible refine VC.mk ?_); exact zw) | (with_reducible first | refine splitT ?_ | refine splitF ?_) | ((with_reducible refine splitM.mk (fun hsm => ?_) (fun hsm => ?_)) <;> (try exact zx)) | ((with_reducible refine splitB.mk (fun h => ?_) (fun h => ?_)) <;> (try simp only [zs, ne_eq] at h) <;> (try simp (disch := omega) only [w64] at h) <;> (try exact zx)) | (with_reducible intro hz; (try exact absurd hz (Nat.succ_ne_zero _)))))
  refine loopW tabOk (E := []) trivial [] (σ := Int × Int) (fun s => [(0, .int .i64 s.1), (1, .int .i64 s.2)]) (fun _ => []) (fun s => s.2.natAbs) (fun s => Int.gcd s.1 s.2 = Int.gcd a b ∧ 0 ≤ s.1 ∧ s.1 < 9223372036854775808 ∧ 0 ≤ s.2 ∧ s.2 < 9223372036854775808) (a, b) ⟨rfl, h⟩ ?_ ?_
  · (repeat' ((try (conv => whnf)); first | (with_reducible first | refine And.intro ?_ ?_ | refine WX.of ?_) | exact zc | ((with_reducible refine VC.mk ?_); exact zw) | (with_reducible first | refine splitT ?_ | refine splitF ?_) | ((with_reducible refine splitM.mk (fun hsm => ?_) (fun hsm => ?_)) <;> (try exact zx)) | ((with_reducible refine splitB.mk (fun h => ?_) (fun h => ?_)) <;> (try simp only [zs, ne_eq] at h) <;> (try simp (disch := omega) only [w64] at h) <;> (try exact zx)) | (with_reducible intro hz; (try exact absurd hz (Nat.succ_ne_zero _)))))
  · rintro ⟨x, y⟩ ⟨hg, hr⟩
    dsimp only at hg hr
    (repeat' ((try (conv => whnf)); first | (with_reducible first | refine And.intro ?_ ?_ | refine WX.of ?_) | exact zc | ((with_reducible refine VC.mk ?_); exact zw) | (with_reducible first | refine splitT ?_ | refine splitF ?_) | ((with_reducible refine splitM.mk (fun hsm => ?_) (fun hsm => ?_)) <;> (try exact zx)) | ((with_reducible refine splitB.mk (fun h => ?_) (fun h => ?_)) <;> (try simp only [zs, ne_eq] at h) <;> (try simp (disch := omega) only [w64] at h) <;> (try exact zx)) | (with_reducible intro hz; (try exact absurd hz (Nat.succ_ne_zero _)))))
    · have := tmod_lt (a := x) h
      have h2 := Int.tmod_nonneg y hr.1
      refine ⟨(y, x.tmod y), this, ⟨by rw [← hg]; exact gcd_tmod, ?_⟩, ?_⟩
      · dsimp only; omega
      · (repeat' ((try (conv => whnf)); first | (with_reducible first | refine And.intro ?_ ?_ | refine WX.of ?_) | exact zc | ((with_reducible refine VC.mk ?_); exact zw) | (with_reducible first | refine splitT ?_ | refine splitF ?_) | ((with_reducible refine splitM.mk (fun hsm => ?_) (fun hsm => ?_)) <;> (try exact zx)) | ((with_reducible refine splitB.mk (fun h => ?_) (fun h => ?_)) <;> (try simp only [zs, ne_eq] at h) <;> (try simp (disch := omega) only [w64] at h) <;> (try exact zx)) | (with_reducible intro hz; (try exact absurd hz (Nat.succ_ne_zero _)))))
    · subst h
      simp at hg
      refine ⟨?_⟩
      dsimp only
      rw [← hg]
      congr 1
      omega
/-- A valid fraction. -/
def fOk (p q : Int) : Bool := decide (1 ≤ q ∧ q ≤ 1000000000 ∧ -1000000000 ≤ p ∧ p ≤ 1000000000 ∧ Int.gcd p q = 1)
theorem fOk_iff {p q : Int} : fOk p q = true ↔ 1 ≤ q ∧ q ≤ 1000000000 ∧ -1000000000 ≤ p ∧ p ≤ 1000000000 ∧ Int.gcd p q = 1 := by simp [fOk]
def s_fOk : Spec := fun args S => match args, S with
  | [.agg [.int .i64 p, .int .i64 q]], [] => ⟨True, .bool (fOk p q), []⟩
  | _, _ => noSpec
theorem gcd_abs (p q : Int) : Int.gcd (p.natAbs : Int) q = Int.gcd p q := by simp [Int.gcd]
theorem ok_ValidFrac : SpecOk Tryd.prog 75 s_fOk := by
  intro args S h; unfold s_fOk at h ⊢; (split at h <;> first | exact False.elim h | skip)
  dsimp only at h ⊢
  refine funW tabOk (E := [(21, s_within), (94, s_gcd)]) ⟨ok_within, ok_gcd, trivial⟩ [] (k := 0) (fn := Tryd.f75) rfl rfl rfl rfl rfl rfl ?_
  (repeat' ((try (conv => whnf)); first | (with_reducible first | refine And.intro ?_ ?_ | refine WX.of ?_) | exact zc | ((with_reducible refine VC.mk ?_); exact zw) | (with_reducible first | refine splitT ?_ | refine splitF ?_) | ((with_reducible refine splitM.mk (fun hsm => ?_) (fun hsm => ?_)) <;> (try exact zx)) | ((with_reducible refine splitB.mk (fun h => ?_) (fun h => ?_)) <;> (try simp only [zs, ne_eq] at h) <;> (try simp (disch := omega) only [w64] at h) <;> (try exact zx)) | (with_reducible intro hz; (try exact absurd hz (Nat.succ_ne_zero _)))))
  all_goals (refine ⟨congrArg SV.bool ?_⟩; (try dsimp only); (try simp (disch := omega) only [w64]); rw [Bool.eq_iff_iff]; try (simp [fOk]); try omega)
theorem ok_l01Ok : SpecOk Tryd.prog 44 s_fOk := by
  intro args S h; unfold s_fOk at h ⊢; (split at h <;> first | exact False.elim h | skip)
  dsimp only at h ⊢
  refine funW tabOk (E := [(16, s_within), (68, s_gcdN), (69, s_abs)]) ⟨ok_l00In, ok_l01Gcd, ok_l01Abs, trivial⟩ [(1, [(13, 2)])] (k := 0) (fn := Tryd.f44) rfl rfl rfl rfl rfl rfl ?_
  (repeat' ((try (conv => whnf)); first | (with_reducible first | refine And.intro ?_ ?_ | refine WX.of ?_) | exact zc | ((with_reducible refine VC.mk ?_); exact zw) | (with_reducible first | refine splitT ?_ | refine splitF ?_) | ((with_reducible refine splitM.mk (fun hsm => ?_) (fun hsm => ?_)) <;> (try exact zx)) | ((with_reducible refine splitB.mk (fun h => ?_) (fun h => ?_)) <;> (try simp only [zs, ne_eq] at h) <;> (try simp (disch := omega) only [w64] at h) <;> (try exact zx)) | (with_reducible intro hz; (try exact absurd hz (Nat.succ_ne_zero _)))))
  all_goals (refine ⟨congrArg SV.bool ?_⟩; (try dsimp only); (try simp (disch := omega) only [w64]); rw [Bool.eq_iff_iff]; try (simp [fOk, gcd_abs]); try omega)
theorem mulB {a b : Int} (ha : -1000000000 ≤ a ∧ a ≤ 1000000000) (hb : -1000000000 ≤ b ∧ b ≤ 1000000000) : -1000000000000000000 ≤ a * b ∧ a * b ≤ 1000000000000000000 := by
  have h1 : a.natAbs ≤ 1000000000 := by omega
  have h2 : b.natAbs ≤ 1000000000 := by omega
  have h3 := Nat.mul_le_mul h1 h2
  rw [← Int.natAbs_mul] at h3
  omega
theorem mulPos {a b : Int} (ha : 1 ≤ a) (hb : 1 ≤ b) : 1 ≤ a * b := by
  have := Int.mul_le_mul ha hb (by omega) (by omega)
  omega
/-- The parts of a fraction within bounds. -/
def smF (p q : Int) : Prop := (-1000000000 ≤ p ∧ p ≤ 1000000000) ∧ 1 ≤ q ∧ q ≤ 1000000000
theorem smF_ok {p q : Int} (h : fOk p q = true) : smF p q := by
  rw [fOk_iff] at h; unfold smF; omega
theorem smF_mul {p q p' q' : Int} (h : smF p q) (h' : smF p' q') :
    (-1000000000000000000 ≤ p * q' ∧ p * q' ≤ 1000000000000000000) ∧ (-1000000000000000000 ≤ p' * q ∧ p' * q ≤ 1000000000000000000) ∧ (-1000000000000000000 ≤ q * p' ∧ q * p' ≤ 1000000000000000000) ∧ (-1000000000000000000 ≤ p * p' ∧ p * p' ≤ 1000000000000000000) ∧ (1 ≤ q * q' ∧ q * q' ≤ 1000000000000000000) := by
  unfold smF at h h'
  exact ⟨mulB h.1 ⟨by omega, by omega⟩, mulB h'.1 ⟨by omega, by omega⟩, mulB ⟨by omega, by omega⟩ h'.1, mulB h.1 h'.1, mulPos h.2.1 h'.2.1, (mulB ⟨by omega, by omega⟩ ⟨by omega, by omega⟩).2⟩
def s_num : Spec := fun args S => match args, S with
  | [.int .i64 n], [] => ⟨True, .agg [.int .i64 n, .int .i64 1], []⟩
  | _, _ => noSpec
theorem ok_l01Whole : SpecOk Tryd.prog 43 s_num := by
  intro args S h; unfold s_num at h ⊢; (split at h <;> first | exact False.elim h | skip)
  dsimp only at h ⊢
  refine funW tabOk (E := []) trivial [] (k := 0) (fn := Tryd.f43) rfl rfl rfl rfl rfl rfl ?_
  (repeat' ((try (conv => whnf)); first | (with_reducible first | refine And.intro ?_ ?_ | refine WX.of ?_) | exact zc | ((with_reducible refine VC.mk ?_); exact zw) | (with_reducible first | refine splitT ?_ | refine splitF ?_) | ((with_reducible refine splitM.mk (fun hsm => ?_) (fun hsm => ?_)) <;> (try exact zx)) | ((with_reducible refine splitB.mk (fun h => ?_) (fun h => ?_)) <;> (try simp only [zs, ne_eq] at h) <;> (try simp (disch := omega) only [w64] at h) <;> (try exact zx)) | (with_reducible intro hz; (try exact absurd hz (Nat.succ_ne_zero _)))))
end Go.Proofs.YtamachahlhlhlaaDoor.Eng
set_option linter.unusedVariables false
set_option linter.unusedSimpArgs false
namespace Go.Proofs.YtamachahlhlhlaaDoor.Eng
open Go Go.RowKit
set_option maxRecDepth 100000
def sh_lays156_ren : Go.Shelf.Ren := ⟨fun | 156 => 41 | 165 => 64 | 166 => 65 | 169 => 66 | 240 => 90 | 241 => 91 | 276 => 105 | 277 => 106 | n => n, fun | 31 => 39 | 9 => 9 | 3 => 3 | 4 => 4 | 0 => 0 | 20 => 20 | 72 => 103 | 76 => 105 | 70 => 101 | 37 => 78 | 75 => 74 | 127 => 128 | 164 => 136 | 5 => 5 | 80 => 107 | n => n, fun | n => n⟩
theorem sh_lays156 : Go.Proofs.Lays.n156 Tryd.prog sh_lays156_ren := {
  mixed := by kernel_rfl
  f156 := Tryd.func41.trans (congrArg some (by kernel_rfl))
  f165 := Tryd.func64.trans (congrArg some (by kernel_rfl))
  f166 := Tryd.func65.trans (congrArg some (by kernel_rfl))
  f169 := Tryd.func66.trans (congrArg some (by kernel_rfl))
  f240 := Tryd.func90.trans (congrArg some (by kernel_rfl))
  f241 := Tryd.func91.trans (congrArg some (by kernel_rfl))
  f276 := Tryd.func105.trans (congrArg some (by kernel_rfl))
  f277 := Tryd.func106.trans (congrArg some (by kernel_rfl))
  t0 := Tryd.underlying0
  a0 := Tryd.isAgg0
  z0 := Tryd.sizeOf0
  v0 := Tryd.zeroValue0
  t3 := Tryd.underlying3
  a3 := Tryd.isAgg3
  z3 := Tryd.sizeOf3
  v3 := Tryd.zeroValue3
  t4 := Tryd.underlying4
  a4 := Tryd.isAgg4
  z4 := Tryd.sizeOf4
  v4 := Tryd.zeroValue4
  t9 := Tryd.underlying9
  a9 := Tryd.isAgg9
  z9 := Tryd.sizeOf9
  v9 := Tryd.zeroValue9
  t20 := Tryd.underlying20
  a20 := Tryd.isAgg20
  z20 := Tryd.sizeOf20
  v20 := Tryd.zeroValue20
  t31 := Tryd.underlying39
  a31 := Tryd.isAgg39
  z31 := Tryd.sizeOf39
  v31 := Tryd.zeroValue39
  t37 := Tryd.underlying78
  a37 := Tryd.isAgg78
  z37 := Tryd.sizeOf78
  v37 := Tryd.zeroValue78
  t70 := Tryd.underlying101
  a70 := Tryd.isAgg101
  z70 := Tryd.sizeOf101
  v70 := Tryd.zeroValue101
  t72 := Tryd.underlying103
  a72 := Tryd.isAgg103
  z72 := Tryd.sizeOf103
  v72 := Tryd.zeroValue103
  t75 := Tryd.underlying74
  a75 := Tryd.isAgg74
  z75 := Tryd.sizeOf74
  v75 := Tryd.zeroValue74
  t76 := Tryd.underlying105
  a76 := Tryd.isAgg105
  z76 := Tryd.sizeOf105
  v76 := Tryd.zeroValue105
  t127 := Tryd.underlying128
  a127 := Tryd.isAgg128
  z127 := Tryd.sizeOf128
  v127 := Tryd.zeroValue128
  t164 := Tryd.underlying136
  a164 := Tryd.isAgg136
  z164 := Tryd.sizeOf136
  v164 := Tryd.zeroValue136 }
theorem sh_Builder_Extra_156 : Builder.Extra Tryd.prog sh_lays156_ren := {
  sizeBuilder := by kernel_rfl
  liesBuilder := by kernel_rfl
  t5 := Tryd.underlying5
  a5 := Tryd.isAgg5
  z5 := Tryd.sizeOf5
  v5 := Tryd.zeroValue5
  infoByte := by kernel_rfl
  cellsByte := by kernel_rfl
  sizeByte := by kernel_rfl
  neB5 := by decide }
open Go.RowKit in
/-- strings.Join: "Join concatenates the elements of its first argument to create a single string. The separator string sep is placed between elements in the resulting string.": HOWEVER MANY ELEMENTS. Below the heap's end the world is as it was. (LAID: no walk: one application.) -/
theorem sh_strings_Join (bk o c : Nat) (xs : List ByteArray) (sep : ByteArray) (w : World) (hcells : ∀ (j : Nat) x, xs[j]? = some x → w.cell? ⟨bk, o + j, none⟩ = some (.string x)) (hbk : bk < w.heap.size) (hN : xs.length ≤ 140737488355328) (hcap : xs.length ≤ c) (hlen : (Lib.join (xs.map (·.data.toList)) sep.data.toList).length ≤ 140737488355328) :
    Calls Tryd.prog 41 #[.slice (some ⟨bk, o, none⟩) xs.length c, .string sep] w fun e w' => e = .returned (.string ⟨(Lib.join (xs.map (·.data.toList)) sep.data.toList).toArray⟩) ∧ Below w.heap.size w w' := Any.strings_Join sh_lays156 sh_Builder_Extra_156 bk o c xs sep w hcells hbk hN hcap hlen
def sh_laysM173_ren : Go.Shelf.Ren := ⟨fun | 173 => 67 | 246 => 92 | 283 => 107 | 284 => 108 | 285 => 109 | 286 => 110 | 129 => 115 | 317 => 114 | 318 => 116 | 319 => 117 | 320 => 118 | 337 => 119 | 338 => 120 | n => n, fun | 2 => 2 | 3 => 3 | 9 => 9 | 4 => 4 | 171 => 139 | 0 => 0 | 53 => 119 | 37 => 78 | 5 => 5 | 173 => 142 | 212 => 155 | 51 => 148 | 20 => 20 | 213 => 156 | 46 => 122 | 232 => 160 | 233 => 161 | n => n, fun | 17 => 5 | 18 => 6 | 19 => 7 | n => n⟩
theorem sh_laysM173 : Go.Proofs.LaysM.n173 Tryd.prog sh_laysM173_ren := {
  mixed := by kernel_rfl
  f129 := Tryd.func115.trans (congrArg some (by kernel_rfl))
  f173 := Tryd.func67.trans (congrArg some (by kernel_rfl))
  f246 := Tryd.func92.trans (congrArg some (by kernel_rfl))
  f283 := Tryd.func107.trans (congrArg some (by kernel_rfl))
  f284 := Tryd.func108.trans (congrArg some (by kernel_rfl))
  f285 := Tryd.func109.trans (congrArg some (by kernel_rfl))
  f286 := Tryd.func110.trans (congrArg some (by kernel_rfl))
  f317 := Tryd.func114.trans (congrArg some (by kernel_rfl))
  f318 := Tryd.func116.trans (congrArg some (by kernel_rfl))
  f319 := Tryd.func117.trans (congrArg some (by kernel_rfl))
  f320 := Tryd.func118.trans (congrArg some (by kernel_rfl))
  f337 := Tryd.func119.trans (congrArg some (by kernel_rfl))
  f338 := Tryd.func120.trans (congrArg some (by kernel_rfl))
  t0 := Tryd.underlying0
  a0 := Tryd.isAgg0
  z0 := Tryd.sizeOf0
  v0 := Tryd.zeroValue0
  t2 := Tryd.underlying2
  a2 := Tryd.isAgg2
  z2 := Tryd.sizeOf2
  v2 := Tryd.zeroValue2
  t3 := Tryd.underlying3
  a3 := Tryd.isAgg3
  z3 := Tryd.sizeOf3
  v3 := Tryd.zeroValue3
  t4 := Tryd.underlying4
  a4 := Tryd.isAgg4
  z4 := Tryd.sizeOf4
  v4 := Tryd.zeroValue4
  t5 := Tryd.underlying5
  a5 := Tryd.isAgg5
  z5 := Tryd.sizeOf5
  v5 := Tryd.zeroValue5
  t9 := Tryd.underlying9
  a9 := Tryd.isAgg9
  z9 := Tryd.sizeOf9
  v9 := Tryd.zeroValue9
  t20 := Tryd.underlying20
  a20 := Tryd.isAgg20
  z20 := Tryd.sizeOf20
  v20 := Tryd.zeroValue20
  t37 := Tryd.underlying78
  a37 := Tryd.isAgg78
  z37 := Tryd.sizeOf78
  v37 := Tryd.zeroValue78
  t46 := Tryd.underlying122
  a46 := Tryd.isAgg122
  z46 := Tryd.sizeOf122
  v46 := Tryd.zeroValue122
  t51 := Tryd.underlying148
  a51 := Tryd.isAgg148
  z51 := Tryd.sizeOf148
  v51 := Tryd.zeroValue148
  t53 := Tryd.underlying119
  a53 := Tryd.isAgg119
  z53 := Tryd.sizeOf119
  v53 := Tryd.zeroValue119
  t171 := Tryd.underlying139
  a171 := Tryd.isAgg139
  z171 := Tryd.sizeOf139
  v171 := Tryd.zeroValue139
  t173 := Tryd.underlying142
  a173 := Tryd.isAgg142
  z173 := Tryd.sizeOf142
  v173 := Tryd.zeroValue142
  t212 := Tryd.underlying155
  a212 := Tryd.isAgg155
  z212 := Tryd.sizeOf155
  v212 := Tryd.zeroValue155
  t213 := Tryd.underlying156
  a213 := Tryd.isAgg156
  z213 := Tryd.sizeOf156
  t232 := Tryd.underlying160
  a232 := Tryd.isAgg160
  z232 := Tryd.sizeOf160
  v232 := Tryd.zeroValue160
  t233 := Tryd.underlying161
  a233 := Tryd.isAgg161
  z233 := Tryd.sizeOf161
  v233 := Tryd.zeroValue161
  g17 := by kernel_rfl
  g18 := by kernel_rfl
  g19 := by kernel_rfl
  i0 := by kernel_rfl
  i2 := by kernel_rfl
  i3 := by kernel_rfl
  i4 := by kernel_rfl
  i5 := by kernel_rfl
  i9 := by kernel_rfl
  i20 := by kernel_rfl
  i37 := by kernel_rfl
  i46 := by kernel_rfl
  i51 := by kernel_rfl
  i53 := by kernel_rfl
  i171 := by kernel_rfl
  i173 := by kernel_rfl
  i212 := by kernel_rfl
  i232 := by kernel_rfl
  i233 := by kernel_rfl
  m17 := by kernel_rfl
  m18 := by kernel_rfl
  m19 := by kernel_rfl }
open Go.RowKit Go.Sort Go.Lib in
/-- strconv.FormatInt: "FormatInt returns the string representation of i in the given base": AT BASE 10: i's decimal numeral, for every int64. (LAID: no walk: one application.) -/
theorem sh_strconv_FormatInt_10 (n : Int) (h0 : -9223372036854775808 ≤ n) (h1 : n ≤ 9223372036854775807) (w : World) (htab : Lib.TabIs Tryd.prog w "internal/strconv.uint64pow10" .u64 Lib.pow10Tab) :
    Calls Tryd.prog 67 #[.int .i64 n, .int .i64 10] w fun e w' => e = .returned (.string ⟨(Lib.itoa n).toArray⟩) ∧ ∃ k os, w' = grow (w.drewN k) os := Any.strconv_FormatInt_10 sh_laysM173 n h0 h1 w htab
/-- A variable that holds something at first holds it later. -/
theorem var_below {P : Program} {w0 w : World} {name : String} {x : Array Value} (hb : Below w0.heap.size w0 w) (hg : w0.var? P name = some x) : w.var? P name = some x := by
  unfold World.var? at hg ⊢
  cases e : P.globalNamed name with
  | none => rw [e] at hg; cases hg
  | some g =>
    rw [e] at hg
    simp only [Option.bind_some] at hg ⊢
    have hlt : g < w0.heap.size := by
      rcases Nat.lt_or_ge g w0.heap.size with h' | h'
      · exact h'
      · rw [Array.getElem?_eq_none h'] at hg; cases hg
    rw [hb.block g hlt]
    exact hg
/-- The table that the numbers' texts are made of, wherever the walk stands. -/
theorem HRel.tab {w0 w : World} {ι : Ren} {H : Heap} (h : HRel w0 ι H w) : Lib.TabIs Tryd.prog w "internal/strconv.uint64pow10" .u64 Lib.pow10Tab := by
  have hg : Lib.TabIs Tryd.prog w0 "internal/strconv.uint64pow10" .u64 Lib.pow10Tab := by first | exact h.glob.1 | exact h.glob.1.1
  exact var_below h.below hg
/-- A world that a call has left as it was, but for blocks of its own. -/
theorem HRel.after {w0 w w' : World} {ι : Ren} {H : Heap} (h : HRel w0 ι H w) (hb : Below w.heap.size w w') : HRel w0 ι H w' :=
  ⟨h.below.trans ⟨hb.os, hb.tape, hb.output, hb.size, fun k hk => hb.block k (Nat.lt_of_lt_of_le hk h.below.size)⟩, h.dom, fun id L b hi hbk => by
    obtain ⟨c, e, fr, q1, q⟩ := h.blk id L b hi hbk
    exact ⟨c, e, fr, by rw [hb.block L.blk (h.lt hi hbk)]; exact q1, q⟩, h.sep, h.flat, h.tot, h.glob.1, trivial⟩
/-- A call of flat values that answers a flat value and leaves what was. -/
theorem Runs_flat {f : FuncId} {H : Heap} {more : List Value} {v : Value} (hen : Enters Tryd.prog f) (hmore : ∀ {ι : Ren} {ys : List Value}, LRel ι more ys → ys = more) (hv : flatV v = true)
    (hcon : ∀ w, Lib.TabIs Tryd.prog w "internal/strconv.uint64pow10" .u64 Lib.pow10Tab → Calls Tryd.prog f ⟨more⟩ w fun e w' => e = .returned v ∧ Below w.heap.size w w') :
    Runs Tryd.prog f more H (fun u G => u = v ∧ G = H) := by
  refine ⟨hen, fun w0 ι w args' h2 h3 => ?_⟩
  have := hmore h3
  subst this
  refine (hcon w h2.tab).mono fun e w' ⟨he, hb⟩ => ?_
  exact ⟨_, _, _, ι, he, ⟨rfl, rfl⟩, .flat hv, h2.after hb, .refl _ _, OCs.refl _ _, Nat.le_refl _⟩
end Go.Proofs.YtamachahlhlhlaaDoor.Eng
set_option linter.unusedVariables false
set_option linter.unusedSimpArgs false
namespace Go.Proofs.YtamachahlhlhlaaDoor.Eng
open Go Go.RowKit
set_option maxRecDepth 100000
/-- The digits of a number that is at least 0, k + 1 of them at most. -/
def decT : Nat → Int → List UInt8
  | 0, n => [UInt8.ofNat (48 + n % 10).toNat]
  | k + 1, n => if n < 10 then [UInt8.ofNat (48 + n % 10).toNat] else decT k (n / 10) ++ [UInt8.ofNat (48 + n % 10).toNat]
theorem decT_len : ∀ (k : Nat) (n : Int), (decT k n).length ≤ k + 1
  | 0, n => by simp [decT]
  | k + 1, n => by
    have := decT_len k (n / 10)
    simp only [decT]
    split
    · simp
    · simp; omega
end Go.Proofs.YtamachahlhlhlaaDoor.Eng
set_option linter.unusedVariables false
set_option linter.unusedSimpArgs false
namespace Go.Proofs.YtamachahlhlhlaaDoor.Eng
open Go Go.RowKit
set_option maxRecDepth 100000
/-- A call of flat values, told by the machine's own word. -/
theorem RunsS_flat {f : FuncId} {args : List SV} {S : List SB} {v : SV} (hen : Enters Tryd.prog f) (ha : args.all flatS = true) (hv : flatS v = true)
    (hcon : ∀ w, Lib.TabIs Tryd.prog w "internal/strconv.uint64pow10" .u64 Lib.pow10Tab → Calls Tryd.prog f ⟨args.map toV⟩ w fun e w' => e = .returned (toV v) ∧ Below w.heap.size w w') : RunsS Tryd.prog f args S v S := by
  intro H ρ args' hD hd h
  have e := LDR.fun2 h (map_toV ha ρ)
  subst e
  have hfl := (map_toV ha ρ).flat ha
  have h1 := map_toV (xs := [v]) (by simp [hv]) ρ
  have hvf : flatV (toV v) = true := (List.all_eq_true.1 (h1.flat (by simp [hv]))) _ (by simp)
  obtain ⟨u, r, e1, hdr, _⟩ := h1.inv_cons
  obtain ⟨rfl, _⟩ := List.cons.inj e1
  refine ⟨toV v, H, ρ, Runs_flat hen (fun hl => (hl.flat_eq fun v hv => List.all_eq_true.1 hfl v hv)) hvf hcon, hdr, .refl hD hd⟩
/-- Numbers' texts. -/
def dcl (n : Int) : List UInt8 := decT 18 n
def sgT (n : Int) : List UInt8 := if n < 0 then 45 :: dcl (-n) else dcl n
theorem decT_19 (n : Int) : (dcl n).length ≤ 19 := decT_len 18 n
theorem sgT_20 (n : Int) : (sgT n).length ≤ 20 := by
  unfold sgT
  split
  · have := decT_19 (-n); simp; omega
  · have := decT_19 n; omega
def s_sgT : Spec := fun args S => match args, S with
  | [.int .i64 n], [] => ⟨-9223372036854775807 ≤ n ∧ n ≤ 9223372036854775807, .str (sgT n), []⟩
  | _, _ => noSpec
def s_itoa : Spec := fun args S => match args, S with
  | [.int .i64 n, .int .i64 10], [] => ⟨-9223372036854775808 ≤ n ∧ n ≤ 9223372036854775807, .str (Lib.itoa n), []⟩
  | _, _ => noSpec
theorem ok_itoa : SpecOk Tryd.prog 67 s_itoa := by
  intro args S h; unfold s_itoa at h ⊢; (split at h <;> first | exact False.elim h | skip)
  dsimp only at h ⊢
  rename_i n
  refine RunsS_flat ⟨Tryd.f67, rfl, rfl, rfl⟩ rfl rfl fun w ht => ?_
  refine (sh_strconv_FormatInt_10 n h.1 h.2 w ht).mono fun e w' ⟨he, k, os, hw⟩ => ⟨he, ?_⟩
  rw [hw]
  exact ⟨rfl, rfl, rfl, by simp [Go.Sort.grow, World.drewN], fun k hk => Go.Sort.heap_grow_old (w.drewN _) os (by simpa [World.drewN] using hk)⟩
theorem decT_dig : ∀ (k u : Nat), u < 10 ^ (k + 1) → decT k u = Lib.decDigits u
  | 0, u, h => by
    have h : u < 10 := by simpa using h
    rw [Lib.decDigits, dif_pos h, decT, show (48 + (u : Int) % 10).toNat = 48 + u by omega]
  | k + 1, u, h => by
    rw [Lib.decDigits]
    by_cases h1 : u < 10
    · rw [dif_pos h1, decT, if_pos (by omega), show (48 + (u : Int) % 10).toNat = 48 + u by omega]
    · rw [dif_neg h1, decT, if_neg (by omega), show (u : Int) / 10 = ((u / 10 : Nat) : Int) by omega, decT_dig k (u / 10) (by
        have : 10 ^ (k + 1 + 1) = 10 ^ (k + 1) * 10 := Nat.pow_succ ..
        omega), show (48 + (u : Int) % 10).toNat = 48 + u % 10 by omega]
theorem dcl_dig {n : Int} (h0 : 0 ≤ n) (h1 : n ≤ 9223372036854775808) : dcl n = Lib.decDigits n.toNat := by
  have := decT_dig 18 n.toNat (by have : 10 ^ (18 + 1) = 10000000000000000000 := by decide
                                  omega)
  rw [← this, dcl, show ((n.toNat : Nat) : Int) = n by omega]
theorem itoa_sgT {n : Int} (h0 : -9223372036854775807 ≤ n) (h1 : n ≤ 9223372036854775807) : Lib.itoa n = sgT n := by
  unfold Lib.itoa sgT
  split
  · rw [dcl_dig (by omega) (by omega), show n.natAbs = (-n).toNat by omega]
  · rw [dcl_dig (by omega) (by omega)]
theorem ok_decI : SpecOk Tryd.prog 42 s_sgT := by
  intro args S h; unfold s_sgT at h ⊢; (split at h <;> first | exact False.elim h | skip)
  dsimp only at h ⊢
  rename_i n
  rw [← itoa_sgT h.1 h.2]
  refine funW tabOk (E := [(67, s_itoa)]) ⟨ok_itoa, trivial⟩ [] (k := 0) (fn := Tryd.f42) rfl rfl rfl rfl rfl rfl ?_
  (repeat' ((try (conv => whnf)); first | (with_reducible first | refine And.intro ?_ ?_ | refine WX.of ?_) | exact zc | ((with_reducible refine VC.mk ?_); exact zw) | ((with_reducible refine VC.mk ?_); exact ⟨by omega, by omega⟩) | (with_reducible first | refine splitT ?_ | refine splitF ?_) | ((with_reducible refine splitM.mk (fun hsm => ?_) (fun hsm => ?_)) <;> (try exact zx)) | ((with_reducible refine splitB.mk (fun h => ?_) (fun h => ?_)) <;> (try simp only [zs, ne_eq] at h) <;> (try simp (disch := omega) only [w64] at h) <;> (try exact zx)) | (with_reducible intro hz; (try exact absurd hz (Nat.succ_ne_zero _)))))
end Go.Proofs.YtamachahlhlhlaaDoor.Eng
set_option linter.unusedVariables false
set_option linter.unusedSimpArgs false
namespace Go.Proofs.YtamachahlhlhlaaDoor.Eng
open Go Go.RowKit
set_option maxRecDepth 100000
/-- A text split at each such byte. -/
def splL (c : UInt8) : List UInt8 → List (List UInt8)
  | [] => [[]]
  | x :: r => if x = c then [] :: splL c r else match splL c r with
    | h :: t => (x :: h) :: t
    | [] => [[x]]
theorem splL_ne (c : UInt8) : ∀ s, splL c s ≠ []
  | [] => by simp [splL]
  | x :: r => by
    simp only [splL]
    split
    · simp
    · split <;> simp
theorem splL_no {c : UInt8} : ∀ {s : List UInt8}, c ∉ s → splL c s = [s]
  | [], _ => rfl
  | x :: r, h => by
    have h1 : ¬ x = c := fun e => h (by rw [e]; exact List.mem_cons_self)
    have h2 := splL_no (c := c) (s := r) fun e => h (List.mem_cons_of_mem _ e)
    simp only [splL]
    rw [if_neg h1, h2]
theorem splL_app {c : UInt8} : ∀ {a b : List UInt8}, c ∉ a → splL c (a ++ c :: b) = a :: splL c b
  | [], b, _ => by simp [splL]
  | x :: a, b, h => by
    have h1 : ¬ x = c := fun e => h (by rw [e]; exact List.mem_cons_self)
    have h2 := splL_app (c := c) (a := a) (b := b) fun e => h (List.mem_cons_of_mem _ e)
    simp only [List.cons_append, splL]
    rw [if_neg h1, h2]
/-- The numbers of a list of digits, behind a number. -/
def digR : Int → List UInt8 → Option Int
  | n, [] => some n
  | n, x :: r => if x.toNat < 48 ∨ 57 < x.toNat then none else digR (10 * n + (x.toNat - 48 : Int)) r
theorem digR_app : ∀ (a b : List UInt8) (n : Int), digR n (a ++ b) = (digR n a).bind fun k => digR k b
  | [], b, n => rfl
  | x :: a, b, n => by
    simp only [List.cons_append, digR]
    split
    · rfl
    · exact digR_app a b _
theorem dig_b {d : Int} (h0 : 0 ≤ d) (h1 : d < 10) : (UInt8.ofNat (48 + d).toNat).toNat = 48 + d.toNat := by
  have e : (48 + d).toNat = 48 + d.toNat := by omega
  rw [e, UInt8.toNat_ofNat_of_lt' (show _ < 256 by omega)]
theorem digR_decT : ∀ (k : Nat) (n : Int), 0 ≤ n → n < 10 ^ (k + 1) → digR 0 (decT k n) = some n
  | 0, n, h0, h1 => by
    have h1 : n < 10 := by simpa using h1
    have e := dig_b (d := n % 10) (by omega) (by omega)
    simp only [decT, digR]
    rw [e, if_neg (by omega)]
    congr 1
    omega
  | k + 1, n, h0, h1 => by
    have e := dig_b (d := n % 10) (by omega) (by omega)
    simp only [decT]
    split
    · simp only [digR]
      rw [e, if_neg (by omega)]
      congr 1
      omega
    · rw [digR_app, digR_decT k (n / 10) (by omega) (by
        have : (10 : Int) ^ (k + 1 + 1) = 10 ^ (k + 1) * 10 := Int.pow_succ ..
        omega)]
      simp only [Option.bind_some, digR]
      rw [e, if_neg (by omega)]
      congr 1
      omega
theorem decT_10 : ∀ (k : Nat) (n : Int) (m : Nat), 0 ≤ n → n < 10 ^ m → 1 ≤ m → (decT k n).length ≤ m
  | 0, n, m, _, _, h => by simp [decT]; exact h
  | k + 1, n, m, h0, h1, h2 => by
    simp only [decT]
    split
    · simp; exact h2
    · rename_i h3
      match m, h1, h2 with
      | 1, h1, _ => exact absurd (by simpa using h1) h3
      | m + 2, h1, _ =>
        have := decT_10 k (n / 10) (m + 1) (by omega) (by
          have : (10 : Int) ^ (m + 2) = 10 ^ (m + 1) * 10 := Int.pow_succ ..
          omega) (by omega)
        simp
        exact this
/-- A number of several digits does not begin with a naught. -/
theorem decT_h : ∀ (k : Nat) (n : Int), 0 ≤ n → n < 10 ^ (k + 1) → 10 ≤ n → ∃ (d : Int) (r : List UInt8), decT k n = UInt8.ofNat (48 + d).toNat :: r ∧ 1 ≤ d ∧ d < 10
  | 0, n, _, h1, h2 => absurd (by simpa using h1) (show ¬ n < 10 by omega)
  | k + 1, n, h0, h1, h2 => by
    simp only [decT]
    rw [if_neg (by omega)]
    by_cases h3 : n / 10 < 10
    · have e : decT k (n / 10) = [UInt8.ofNat (48 + n / 10 % 10).toNat] := by
        cases k with
        | zero => rfl
        | succ k => simp only [decT]; rw [if_pos h3]
      rw [e]
      exact ⟨n / 10 % 10, _, rfl, by omega, by omega⟩
    · obtain ⟨d, r, e, h4, h5⟩ := decT_h k (n / 10) (by omega) (by
        have : (10 : Int) ^ (k + 1 + 1) = 10 ^ (k + 1) * 10 := Int.pow_succ ..
        omega) (by omega)
      rw [e]
      exact ⟨d, _, rfl, h4, h5⟩
/-- What the reference reads: a number of at most ten digits, and with a sign. -/
def numR (s : List UInt8) : Option Int := if s = [] ∨ 10 < s.length ∨ (s[0]? = some 48 ∧ 1 < s.length) then none else digR 0 s
def sgnR : List UInt8 → Option Int
  | 45 :: r => (numR r).bind fun n => if 0 < n then some (-n) else none
  | s => numR s
theorem decT_ne (k : Nat) (n : Int) : decT k n ≠ [] := by
  cases k with
  | zero => simp [decT]
  | succ k =>
    simp only [decT]
    split <;> simp
theorem numR_dcl {n : Int} (h0 : 0 ≤ n) (h1 : n < 10000000000) : numR (dcl n) = some n := by
  have h2 : n < 10 ^ (18 + 1) := by
    have : (10 : Int) ^ (18 + 1) = 10000000000000000000 := by decide
    omega
  have hl := decT_10 18 n 10 h0 (by have : (10 : Int) ^ 10 = 10000000000 := by decide
                                    omega) (by omega)
  unfold numR dcl
  rw [if_neg, digR_decT 18 n h0 h2]
  rintro (h | h | ⟨h, h3⟩)
  · exact decT_ne _ _ h
  · omega
  · by_cases h4 : n < 10
    · have : decT 18 n = [UInt8.ofNat (48 + n % 10).toNat] := by simp only [decT]; rw [if_pos h4]
      rw [this] at h3
      simp at h3
    · obtain ⟨d, r, e, h5, h6⟩ := decT_h 18 n h0 h2 (by omega)
      rw [e] at h
      simp only [List.getElem?_cons_zero, Option.some.injEq] at h
      have e2 := dig_b (d := d) (by omega) h6
      rw [h] at e2
      simp at e2
      omega
theorem numR_pos {s : List UInt8} {n : Int} (h : numR s = some n) : s.head? ≠ some 45 := by
  intro hh
  match s, hh with
  | x :: r, hh =>
    simp only [List.head?_cons, Option.some.injEq] at hh
    subst hh
    unfold numR at h
    split at h
    · simp at h
    · simp [digR] at h
theorem sgnR_num {s : List UInt8} (h : s.head? ≠ some 45) : sgnR s = numR s := by
  unfold sgnR
  split
  · simp at h
  · rfl
theorem sgnR_sgT {n : Int} (h0 : -10000000000 < n) (h1 : n < 10000000000) : sgnR (sgT n) = some n := by
  unfold sgT
  split
  · rename_i h
    simp only [sgnR]
    rw [numR_dcl (by omega) (by omega)]
    simp only [Option.bind_some]
    rw [if_pos (by omega)]
    congr 1
    omega
  · rename_i h
    have := numR_dcl (n := n) (by omega) (by omega)
    rw [sgnR_num (numR_pos this)]
    exact this
/-- What bytes a number's text has. -/
def dgB (x : UInt8) : Prop := 48 ≤ x.toNat ∧ x.toNat ≤ 57
theorem decT_b : ∀ (k : Nat) (n : Int), 0 ≤ n → n < 10 ^ (k + 1) → ∀ x ∈ decT k n, dgB x
  | 0, n, h0, h1 => by
    have e := dig_b (d := n % 10) (by omega) (by omega)
    intro x hx
    simp only [decT, List.mem_singleton] at hx
    subst hx
    unfold dgB
    omega
  | k + 1, n, h0, h1 => by
    have e := dig_b (d := n % 10) (by omega) (by omega)
    intro x hx
    simp only [decT] at hx
    split at hx
    · rw [List.mem_singleton] at hx
      subst hx
      unfold dgB
      omega
    · rcases List.mem_append.1 hx with hx | hx
      · exact decT_b k (n / 10) (by omega) (by
          have : (10 : Int) ^ (k + 1 + 1) = 10 ^ (k + 1) * 10 := Int.pow_succ ..
          omega) x hx
      · rw [List.mem_singleton] at hx
        subst hx
        unfold dgB
        omega
theorem dcl_b {n : Int} (h0 : 0 ≤ n) (h1 : n ≤ 9223372036854775807) : ∀ x ∈ dcl n, dgB x := decT_b 18 n h0 (by
  have : (10 : Int) ^ (18 + 1) = 10000000000000000000 := by decide
  omega)
theorem sgT_b {n : Int} (h0 : -9223372036854775807 ≤ n) (h1 : n ≤ 9223372036854775807) : ∀ x ∈ sgT n, dgB x ∨ x = 45 := by
  unfold sgT
  split
  · intro x hx
    rcases List.mem_cons.1 hx with hx | hx
    · exact .inr hx
    · exact .inl (dcl_b (by omega) (by omega) x hx)
  · exact fun x hx => .inl (dcl_b (by omega) (by omega) x hx)
/-- The i-th word. -/
def wR (W : List (List UInt8)) (i : Nat) : List UInt8 := (W[i]?).getD []
end Go.Proofs.YtamachahlhlhlaaDoor.Eng
set_option linter.unusedVariables false
set_option linter.unusedSimpArgs false
namespace Go.Proofs.YtamachahlhlhlaaDoor.Eng
open Go Go.RowKit
set_option maxRecDepth 100000
/-- As the reference splits: the pieces so far, where the next begins. -/
def spS (c : UInt8) (s : List UInt8) : Nat → List (List UInt8) × Nat
  | 0 => ([], 0)
  | i + 1 => if s[i]? = some c then ((spS c s i).1 ++ [(s.take i).drop (spS c s i).2], i + 1) else spS c s i
theorem spS_inv (c : UInt8) (s : List UInt8) : ∀ i, i ≤ s.length → (spS c s i).2 ≤ i ∧ (spS c s i).1.length ≤ i ∧ c ∉ (s.take i).drop (spS c s i).2 ∧ splL c s = (spS c s i).1 ++ splL c (s.drop (spS c s i).2)
  | 0, _ => by simp [spS]
  | i + 1, h => by
    obtain ⟨h1, h2, h3, h4⟩ := spS_inv c s i (by omega)
    have hi : i < s.length := by omega
    have ht : s.take (i + 1) = s.take i ++ [s[i]] := List.take_succ_eq_append_getElem hi
    simp only [spS]
    by_cases hc : s[i]? = some c
    · rw [if_pos hc]
      have he : s[i] = c := by rw [List.getElem?_eq_getElem hi] at hc; exact Option.some.inj hc
      refine ⟨Nat.le_refl _, by simp; exact h2, by simp, ?_⟩
      have hd : ∀ b, b ≤ i → s.drop b = (s.take i).drop b ++ c :: s.drop (i + 1) := fun b hb => by
        conv => lhs; rw [← List.take_append_drop i s]
        rw [List.drop_append_of_le_length (by rw [List.length_take]; omega), List.drop_eq_getElem_cons hi, he]
      rw [h4, hd _ h1, splL_app h3]
      simp
    · rw [if_neg hc]
      refine ⟨by omega, by omega, ?_, h4⟩
      rw [ht, List.drop_append_of_le_length (by rw [List.length_take]; omega)]
      intro hm
      rcases List.mem_append.1 hm with hm | hm
      · exact h3 hm
      · rw [List.mem_singleton] at hm
        exact hc (by rw [List.getElem?_eq_getElem hi, hm])
theorem spS_end (c : UInt8) (s : List UInt8) : splL c s = (spS c s s.length).1 ++ [s.drop (spS c s s.length).2] := by
  obtain ⟨_, _, h3, h4⟩ := spS_inv c s s.length (Nat.le_refl _)
  rw [List.take_length] at h3
  rw [h4, splL_no h3]
end Go.Proofs.YtamachahlhlhlaaDoor.Eng
set_option linter.unusedVariables false
set_option linter.unusedSimpArgs false
namespace Go.Proofs.YtamachahlhlhlaaDoor.Eng
open Go Go.RowKit
set_option maxRecDepth 100000
/-- What a row's cells are in the machine. -/
theorem HRel.listCells {w0 w : World} {ι : Ren} {H : Heap} (h : HRel w0 ι H w) {id : Nat} {L : Loc} {b : Blk} (hi : ι id = some L) (hb : H[id]? = some (some b)) (hfl : b.fl = true) :
    L.blk < w.heap.size ∧ ∀ (j : Nat) (v : Value), b.cells[j]? = some v → w.cell? ⟨L.blk, L.off + j, none⟩ = some v := by
  obtain ⟨c, e, fr, q1, q2, q3, q4, q5, q6⟩ := h.blk id L b hi hb
  refine ⟨h.lt hi hb, fun j v hv => ?_⟩
  obtain ⟨v', r1, r2⟩ := q5 j v hv
  have hf := h.flat id b hb hfl v (List.mem_of_getElem? hv)
  have := r2.flat_eq hf
  subst this
  rw [World.cell?]
  simp [q1, r1]
  done
/-- A call of a list and flat values that leaves what was. -/
theorem Runs_list {f : FuncId} {H : Heap} {id n c : Nat} {b : Blk} {more : List Value} {v : Value} (hb : getB H id = some b) (hn : 0 < n) (hfl : b.fl = true)
    (hen : Enters Tryd.prog f) (hmore : ∀ {ι : Ren} {ys : List Value}, LRel ι more ys → ys = more) (hv : flatV v = true)
    (hcon : ∀ (w : World) (blk off cap : Nat), Lib.TabIs Tryd.prog w "internal/strconv.uint64pow10" .u64 Lib.pow10Tab → (∀ (j : Nat) (v : Value), b.cells[j]? = some v → w.cell? ⟨blk, off + j, none⟩ = some v) → blk < w.heap.size → n ≤ cap →
      Calls Tryd.prog f ⟨.slice (some ⟨blk, off, none⟩) n cap :: more⟩ w fun e w' => e = .returned v ∧ Below w.heap.size w w') :
    Runs Tryd.prog f (.slice (some ⟨id, 0, none⟩) n c :: more) H (fun u G => u = v ∧ G = H) := by
  refine ⟨hen, fun w0 ι w args' h2 h3 => ?_⟩
  obtain ⟨v', ys, rfl, hv', hys⟩ := h3.inv_cons
  have := hmore hys
  subst this
  cases hv' with
  | sl _ _ _ _ L a' c' hi hn' hz hl' hx ha =>
    have hcne : c' ≠ 0 := by omega
    have ha := ha.resolve_right hcne
    subst ha
    rw [Nat.add_zero]
    obtain ⟨hlt, hcell⟩ := h2.listCells hi (getB_eq.1 hb) hfl
    refine (hcon w L.blk L.off c' h2.tab hcell hlt hn').mono fun e w' ⟨he, hb⟩ => ?_
    exact ⟨_, _, _, ι, he, ⟨rfl, rfl⟩, .flat hv, h2.after hb, .refl _ _, OCs.refl _ _, Nat.le_refl _⟩
theorem fm_str : ∀ (l : List (List UInt8)), (l.flatMap (ET.enc .str)) = l.map SV.str
  | [] => rfl
  | a :: l => by rw [List.flatMap_cons, fm_str l]; rfl
def s_join : Spec := fun args S => match args, S with
  | [.sl 0 0 n x, .str sep], [.arr .str l 1 true] => ⟨n = l.length ∧ (1 ≤ n ∧ n ≤ 1000000) ∧ (Lib.join l sep).length ≤ 140737488355328, .str (Lib.join l sep), [.arr .str l 1 true]⟩
  | _, _ => noSpec
theorem ok_join : SpecOk Tryd.prog 41 s_join := by
  intro args S h; unfold s_join at h ⊢; (split at h <;> first | exact False.elim h | skip)
  dsimp only at h ⊢
  rename_i n x sep l
  obtain ⟨rfl, ⟨h1, h2⟩, h3⟩ := h
  intro H ρ args' hD hd ha
  obtain ⟨v1, r1, rfl, k1, ha⟩ := ha.inv_cons
  obtain ⟨v2, r2, rfl, k2, ha⟩ := ha.inv_cons
  rw [ha.inv_nil]
  have hv2 : v2 = .string ⟨⟨sep⟩⟩ := by cases k2; rfl
  obtain ⟨id, w, kb, q1, q2, q3⟩ := hD.blk 0 _ rfl rfl
  obtain ⟨rfl, e2, e3, e4, e5⟩ := q3
  have hv1 : v1 = .slice (some ⟨id, 0, none⟩) l.length (l.length + x + 1) := by
    cases k1 with | sl _ _ _ _ id' w' hb' => rw [q1] at hb'; obtain ⟨rfl, rfl⟩ := Prod.mk.inj (Option.some.inj hb'); simp
  have hc : kb.cells = (l.flatMap (ET.enc .str)).map toV := LDR.fun2 e5 (map_toV (flat_all _) ρ)
  have hxs : ((l.map fun s => (⟨⟨s⟩⟩ : ByteArray)).map (·.data.toList)) = l := by
    rw [List.map_map]
    show List.map (fun s => s) l = l
    exact List.map_id' l
  have hfm := fm_str l
  have hrun := Runs_list (f := 41) (H := H) (id := id) (n := l.length) (c := l.length + x + 1) (b := kb) (more := [.string ⟨⟨sep⟩⟩]) (v := .string ⟨(Lib.join l sep).toArray⟩) q2 (by omega) e4 ⟨Tryd.f41, rfl, rfl, rfl⟩
    (fun hy => hy.flat_eq fun v hv => by simp at hv; subst hv; rfl) rfl ?_
  · rw [hv1, hv2]
    exact ⟨_, _, ρ, hrun, .str _, .refl hD hd⟩
  · intro W blk off cap ht hcell hlt hcap
    have := sh_strings_Join blk off cap (l.map fun s => (⟨⟨s⟩⟩ : ByteArray)) ⟨⟨sep⟩⟩ W (fun j y hy => by
      refine hcell j _ ?_
      rw [hc]
      rw [hfm, List.map_map, List.getElem?_map]
      rw [List.getElem?_map] at hy
      cases e : l[j]? with
      | none => rw [e] at hy; simp at hy
      | some s =>
        rw [e] at hy
        simp only [Option.map_some, Option.some.injEq] at hy
        rw [← hy]
        rfl) hlt (by simp; omega) (by simpa using hcap) (by rw [hxs]; exact h3)
    rw [hxs, List.length_map] at this
    exact this
end Go.Proofs.YtamachahlhlhlaaDoor.Eng
set_option linter.unusedVariables false
set_option linter.unusedSimpArgs false
namespace Go.Proofs.YtamachahlhlhlaaDoor.Eng
open Go Go.RowKit
set_option maxRecDepth 100000
def s_eqFrac : Spec := fun args S => match args, S with
  | [.agg [.int .i64 p, .int .i64 q], .agg [.int .i64 p', .int .i64 q']], [] => ⟨True, .bool (decide (p = p' ∧ q = q')), []⟩
  | _, _ => noSpec
theorem ok_eqFrac : SpecOk Tryd.prog 33 s_eqFrac := by
  intro args S h; unfold s_eqFrac at h ⊢; (split at h <;> first | exact False.elim h | skip)
  dsimp only at h ⊢
  refine funW tabOk (E := []) trivial [] (k := 0) (fn := Tryd.f33) rfl rfl rfl rfl rfl rfl ?_
  (repeat' ((try (conv => whnf)); first | (with_reducible first | refine And.intro ?_ ?_ | refine WX.of ?_) | exact zc | ((with_reducible refine VC.mk ?_); exact zw) | (with_reducible first | refine splitT ?_ | refine splitF ?_) | ((with_reducible refine splitM.mk (fun hsm => ?_) (fun hsm => ?_)) <;> (try exact zx)) | ((with_reducible refine splitB.mk (fun h => ?_) (fun h => ?_)) <;> (try simp only [zs, ne_eq] at h) <;> (try simp (disch := omega) only [w64] at h) <;> (try exact zx)) | (with_reducible intro hz; (try exact absurd hz (Nat.succ_ne_zero _)))))
  all_goals (refine ⟨congrArg SV.bool ?_⟩; (try dsimp only); (try simp (disch := omega) only [w64]); rw [Bool.eq_iff_iff]; try (simp []); try omega)
def s_nfOk : Spec := fun args S => match args, S with
  | [.agg [.int .i64 p, .int .i64 q]], [] => ⟨True, .bool (!fOk p q), []⟩
  | _, _ => noSpec
theorem ok_areValid1 : SpecOk Tryd.prog 74 s_nfOk := by
  intro args S h; unfold s_nfOk at h ⊢; (split at h <;> first | exact False.elim h | skip)
  dsimp only at h ⊢
  refine funW tabOk (E := [(75, s_fOk)]) ⟨ok_ValidFrac, trivial⟩ [] (k := 0) (fn := Tryd.f74) rfl rfl rfl rfl rfl rfl ?_
  (repeat' ((try (conv => whnf)); first | (with_reducible first | refine And.intro ?_ ?_ | refine WX.of ?_) | exact zc | ((with_reducible refine VC.mk ?_); exact zw) | (with_reducible first | refine splitT ?_ | refine splitF ?_) | ((with_reducible refine splitM.mk (fun hsm => ?_) (fun hsm => ?_)) <;> (try exact zx)) | ((with_reducible refine splitB.mk (fun h => ?_) (fun h => ?_)) <;> (try simp only [zs, ne_eq] at h) <;> (try simp (disch := omega) only [w64] at h) <;> (try exact zx)) | (with_reducible intro hz; (try exact absurd hz (Nat.succ_ne_zero _)))))
def nfOk (a : Int × Int) : Bool := !fOk a.1 a.2
def s_idxF (g : Nat) : Spec := fun args S => match args, S with
  | [.sl 0 s n x, .fn g' []], [.arr (.prod (.int .i64) (.int .i64)) l 2 wr] => ⟨g' = g ∧ s + n ≤ l.length ∧ n ≤ 4611686018427387904, .int .i64 (findI nfOk (seg l s n)), [.arr (.prod (.int .i64) (.int .i64)) l 2 wr]⟩
  | _, _ => noSpec
theorem ok_idxF : SpecOk Tryd.prog 93 (s_idxF 74) := by
  intro args S h; unfold s_idxF at h ⊢; (split at h <;> first | exact False.elim h | skip)
  dsimp only at h ⊢
  rename_i s n x g l wr
  obtain ⟨rfl, h1, h2⟩ := h
  have hL := seg_len h1
  refine funW tabOk (E := [(74, s_nfOk)]) ⟨ok_areValid1, trivial⟩ [] (k := 1) (fn := Tryd.f93) rfl rfl rfl rfl rfl rfl ?_
  (repeat' ((try (conv => whnf)); first | (with_reducible first | refine And.intro ?_ ?_ | refine WX.of ?_) | exact zc | ((with_reducible refine VC.mk ?_); exact zw) | (with_reducible first | refine splitT ?_ | refine splitF ?_) | ((with_reducible refine splitM.mk (fun hsm => ?_) (fun hsm => ?_)) <;> (try exact zx)) | ((with_reducible refine splitB.mk (fun h => ?_) (fun h => ?_)) <;> (try simp only [zs, ne_eq] at h) <;> (try simp (disch := omega) only [w64] at h) <;> (try exact zx)) | (with_reducible intro hz; (try exact absurd hz (Nat.succ_ne_zero _)))))
  refine loopW tabOk (E := [(74, s_nfOk)]) ⟨ok_areValid1, trivial⟩ [] (σ := Nat) (fun i => [(0, .sl 0 s n x), (1, .fn 74 []), (7, .int .i64 n), (8, .int .i64 i)]) (fun i => [.arr (.prod (.int .i64) (.int .i64)) l 2 wr]) (fun i => n - i) (fun i => i ≤ n ∧ ∀ (j : Nat) a, j < i → (seg l s n)[j]? = some a → nfOk a = false) 0 ⟨Nat.zero_le _, fun j a hj => by omega⟩ ?_ ?_
  · (repeat' ((try (conv => whnf)); first | (with_reducible first | refine And.intro ?_ ?_ | refine WX.of ?_) | exact zc | ((with_reducible refine VC.mk ?_); exact zw) | (with_reducible first | refine splitT ?_ | refine splitF ?_) | ((with_reducible refine splitM.mk (fun hsm => ?_) (fun hsm => ?_)) <;> (try exact zx)) | ((with_reducible refine splitB.mk (fun h => ?_) (fun h => ?_)) <;> (try simp only [zs, ne_eq] at h) <;> (try simp (disch := omega) only [w64] at h) <;> (try exact zx)) | (with_reducible intro hz; (try exact absurd hz (Nat.succ_ne_zero _)))))
  · intro i ⟨hi, hp⟩
    by_cases hlt : i < n
    · obtain ⟨a, ha⟩ := get_some (l := seg l s n) (i := i) (by omega)
      (repeat' ((try (conv => whnf)); first | (with_reducible first | refine And.intro ?_ ?_ | refine WX.of ?_) | exact zc | ((with_reducible refine VC.mk ?_); exact zw) | refine atL_i ha ?_ | (with_reducible first | refine splitT ?_ | refine splitF ?_) | ((with_reducible refine splitM.mk (fun hsm => ?_) (fun hsm => ?_)) <;> (try exact zx)) | ((with_reducible refine splitB.mk (fun h => ?_) (fun h => ?_)) <;> (try simp only [zs, ne_eq] at h) <;> (try simp (disch := omega) only [w64] at h) <;> (try exact zx)) | (with_reducible intro hz; (try exact absurd hz (Nat.succ_ne_zero _)))))
      · exact ⟨by rw [findI_some ha (by simpa [nfOk] using h) hp]⟩
      · refine ⟨i + 1, by omega, ⟨hlt, upto_step ha (by simpa [nfOk] using h) hp⟩, ?_⟩
        (repeat' ((try (conv => whnf)); first | (with_reducible first | refine And.intro ?_ ?_ | refine WX.of ?_) | exact zc | ((with_reducible refine VC.mk ?_); exact zw) | (with_reducible first | refine splitT ?_ | refine splitF ?_) | ((with_reducible refine splitM.mk (fun hsm => ?_) (fun hsm => ?_)) <;> (try exact zx)) | ((with_reducible refine splitB.mk (fun h => ?_) (fun h => ?_)) <;> (try simp only [zs, ne_eq] at h) <;> (try simp (disch := omega) only [w64] at h) <;> (try exact zx)) | (with_reducible intro hz; (try exact absurd hz (Nat.succ_ne_zero _)))))
    · (repeat' ((try (conv => whnf)); first | (with_reducible first | refine And.intro ?_ ?_ | refine WX.of ?_) | exact zc | ((with_reducible refine VC.mk ?_); exact zw) | (with_reducible first | refine splitT ?_ | refine splitF ?_) | ((with_reducible refine splitM.mk (fun hsm => ?_) (fun hsm => ?_)) <;> (try exact zx)) | ((with_reducible refine splitB.mk (fun h => ?_) (fun h => ?_)) <;> (try simp only [zs, ne_eq] at h) <;> (try simp (disch := omega) only [w64] at h) <;> (try exact zx)) | (with_reducible intro hz; (try exact absurd hz (Nat.succ_ne_zero _)))))
      exact ⟨by rw [findI_none fun j a hj => hp j a (by have := (List.getElem?_eq_some_iff.1 hj).1; omega) hj]⟩
def s_anyF (g : Nat) : Spec := fun args S => match args, S with
  | [.sl 0 s n x, .fn g' []], [.arr (.prod (.int .i64) (.int .i64)) l 2 wr] => ⟨g' = g ∧ s + n ≤ l.length ∧ n ≤ 4611686018427387904, .bool ((seg l s n).any nfOk), [.arr (.prod (.int .i64) (.int .i64)) l 2 wr]⟩
  | _, _ => noSpec
theorem ok_anyF : SpecOk Tryd.prog 73 (s_anyF 74) := by
  intro args S h; unfold s_anyF at h ⊢; (split at h <;> first | exact False.elim h | skip)
  dsimp only at h ⊢
  rename_i s n x g l wr
  obtain ⟨rfl, h1, h2⟩ := h
  refine funW tabOk (E := [(93, (s_idxF 74))]) ⟨ok_idxF, trivial⟩ [] (k := 1) (fn := Tryd.f73) rfl rfl rfl rfl rfl rfl ?_
  (repeat' ((try (conv => whnf)); first | (with_reducible first | refine And.intro ?_ ?_ | refine WX.of ?_) | exact zc | ((with_reducible refine VC.mk ?_); exact zw) | (with_reducible first | refine splitT ?_ | refine splitF ?_) | ((with_reducible refine splitM.mk (fun hsm => ?_) (fun hsm => ?_)) <;> (try exact zx)) | ((with_reducible refine splitB.mk (fun h => ?_) (fun h => ?_)) <;> (try simp only [zs, ne_eq] at h) <;> (try simp (disch := omega) only [w64] at h) <;> (try exact zx)) | (with_reducible intro hz; (try exact absurd hz (Nat.succ_ne_zero _)))))
  exact ⟨by rw [findI_any]⟩
/-- Valid fractions. -/
def allF (L : List (Int × Int)) : Bool := L.all fun a => fOk a.1 a.2
def s_allF : Spec := fun args S => match args, S with
  | [.sl 0 s n x], [.arr (.prod (.int .i64) (.int .i64)) l 2 wr] => ⟨s + n ≤ l.length ∧ n ≤ 4611686018427387904, .bool (allF (seg l s n)), [.arr (.prod (.int .i64) (.int .i64)) l 2 wr]⟩
  | _, _ => noSpec
theorem ok_areValid : SpecOk Tryd.prog 50 s_allF := by
  intro args S h; unfold s_allF at h ⊢; (split at h <;> first | exact False.elim h | skip)
  dsimp only at h ⊢
  refine funW tabOk (E := [(73, (s_anyF 74))]) ⟨ok_anyF, trivial⟩ [] (k := 1) (fn := Tryd.f50) rfl rfl rfl rfl rfl rfl ?_
  (repeat' ((try (conv => whnf)); first | (with_reducible first | refine And.intro ?_ ?_ | refine WX.of ?_) | exact zc | ((with_reducible refine VC.mk ?_); exact zw) | (with_reducible first | refine splitT ?_ | refine splitF ?_) | ((with_reducible refine splitM.mk (fun hsm => ?_) (fun hsm => ?_)) <;> (try exact zx)) | ((with_reducible refine splitB.mk (fun h => ?_) (fun h => ?_)) <;> (try simp only [zs, ne_eq] at h) <;> (try simp (disch := omega) only [w64] at h) <;> (try exact zx)) | (with_reducible intro hz; (try exact absurd hz (Nat.succ_ne_zero _)))))
  all_goals (refine ⟨?_⟩; unfold allF; rw [List.all_eq_not_any_not]; rfl)
/-- Comparing. -/
def cmpF (p q p' q' : Int) : Int := if p * q' < p' * q then -1 else if p * q' > p' * q then 1 else 0
def s_cmp : Spec := fun args S => match args, S with
  | [.agg [.int .i64 p, .int .i64 q], .agg [.int .i64 p', .int .i64 q']], [] => ⟨smF p q ∧ smF p' q', .int .i64 (cmpF p q p' q'), []⟩
  | _, _ => noSpec
theorem ok_compare : SpecOk Tryd.prog 76 s_cmp := by
  intro args S h; unfold s_cmp at h ⊢; (split at h <;> first | exact False.elim h | skip)
  dsimp only at h ⊢
  rename_i p q p' q'
  have hm := smF_mul h.1 h.2
  have hm' := smF_mul h.2 h.1
  refine funW tabOk (E := []) trivial [] (k := 0) (fn := Tryd.f76) rfl rfl rfl rfl rfl rfl ?_
  (repeat' ((try (conv => whnf)); first | (with_reducible first | refine And.intro ?_ ?_ | refine WX.of ?_) | exact zc | ((with_reducible refine VC.mk ?_); exact zw) | (with_reducible first | refine splitT ?_ | refine splitF ?_) | ((with_reducible refine splitM.mk (fun hsm => ?_) (fun hsm => ?_)) <;> (try exact zx)) | ((with_reducible refine splitB.mk (fun h => ?_) (fun h => ?_)) <;> (try simp only [zs, ne_eq] at h) <;> (try simp (disch := omega) only [w64] at h) <;> (try exact zx)) | (with_reducible intro hz; (try exact absurd hz (Nat.succ_ne_zero _)))))
  all_goals (refine ⟨?_⟩; unfold cmpF; first | (rw [if_pos (by omega)]; done) | (rw [if_neg (by omega), if_pos (by omega)]; done) | (rw [if_neg (by omega), if_neg (by omega)]))
theorem ok_l01Cmp : SpecOk Tryd.prog 70 s_cmp := by
  intro args S h; unfold s_cmp at h ⊢; (split at h <;> first | exact False.elim h | skip)
  dsimp only at h ⊢
  rename_i p q p' q'
  have hm := smF_mul h.1 h.2
  have hm' := smF_mul h.2 h.1
  refine funW tabOk (E := []) trivial [] (k := 0) (fn := Tryd.f70) rfl rfl rfl rfl rfl rfl ?_
  (repeat' ((try (conv => whnf)); first | (with_reducible first | refine And.intro ?_ ?_ | refine WX.of ?_) | exact zc | ((with_reducible refine VC.mk ?_); exact zw) | (with_reducible first | refine splitT ?_ | refine splitF ?_) | ((with_reducible refine splitM.mk (fun hsm => ?_) (fun hsm => ?_)) <;> (try exact zx)) | ((with_reducible refine splitB.mk (fun h => ?_) (fun h => ?_)) <;> (try simp only [zs, ne_eq] at h) <;> (try simp (disch := omega) only [w64] at h) <;> (try exact zx)) | (with_reducible intro hz; (try exact absurd hz (Nat.succ_ne_zero _)))))
  all_goals (refine ⟨?_⟩; unfold cmpF; first | (rw [if_pos (by omega)]; done) | (rw [if_neg (by omega), if_pos (by omega)]; done) | (rw [if_neg (by omega), if_neg (by omega)]))
theorem cmpF_le {p q p' q' : Int} : cmpF p q p' q' ≤ 0 ↔ p * q' ≤ p' * q := by unfold cmpF; (repeat' split) <;> omega
/-- A valid span. -/
def spOk (p q p' q' : Int) : Bool := fOk p q && fOk p' q' && decide (p * q' ≤ p' * q)
theorem spOk_iff {p q p' q' : Int} : spOk p q p' q' = true ↔ fOk p q = true ∧ fOk p' q' = true ∧ p * q' ≤ p' * q := by simp [spOk, and_assoc]
def s_vSpan : Spec := fun args S => match args, S with
  | [.agg [.int .i64 p, .int .i64 q, .int .i64 p', .int .i64 q']], [] => ⟨True, .bool (spOk p q p' q'), []⟩
  | _, _ => noSpec
theorem allF_two {p q p' q' : Int} : allF (seg [(p, q), (p', q')] 0 2) = (fOk p q && fOk p' q') := by simp [allF, seg]
theorem ok_ValidSpan : SpecOk Tryd.prog 51 s_vSpan := by
  intro args S h; unfold s_vSpan at h ⊢; (split at h <;> first | exact False.elim h | skip)
  dsimp only at h ⊢
  rename_i p q p' q'
  have hc := cmpF_le (p := p) (q := q) (p' := p') (q' := q')
  refine funW tabOk (E := [(50, s_allF), (76, s_cmp)]) ⟨ok_areValid, ok_compare, trivial⟩ [] (k := 0) (fn := Tryd.f51) rfl rfl rfl rfl rfl rfl ?_
  (repeat' ((try (conv => whnf)); first | (with_reducible first | refine And.intro ?_ ?_ | refine WX.of ?_) | exact zc | ((with_reducible refine VC.mk ?_); exact zw) | (with_reducible first | refine splitT ?_ | refine splitF ?_) | ((with_reducible refine splitM.mk (fun hsm => ?_) (fun hsm => ?_)) <;> (try exact zx)) | ((with_reducible refine splitB.mk (fun h => ?_) (fun h => ?_)) <;> (try simp only [zs, ne_eq] at h) <;> (try simp (disch := omega) only [w64] at h) <;> (try exact zx)) | (with_reducible intro hz; (try exact absurd hz (Nat.succ_ne_zero _)))))
  · exact ⟨⟨Nat.le_refl 2, by omega⟩⟩
  · rw [allF_two, Bool.and_eq_true] at h
    exact ⟨⟨smF_ok h.1, smF_ok h.2⟩⟩
  · rw [allF_two, Bool.and_eq_true] at h
    refine ⟨congrArg SV.bool ?_⟩
    simp only [hc]; simp [spOk, h]
  · rw [allF_two] at h
    refine ⟨congrArg SV.bool ?_⟩
    simp only [spOk, h]; rfl
def s_l01Span : Spec := fun args S => match args, S with
  | [.ptr 0 i 0], [.arr (.prod (.prod (.int .i64) (.int .i64)) (.prod (.int .i64) (.int .i64))) l sz wr] => ⟨i < l.length, .bool (spOk ((l[i]?).getD ((0, 0), 0, 0)).1.1 ((l[i]?).getD ((0, 0), 0, 0)).1.2 ((l[i]?).getD ((0, 0), 0, 0)).2.1 ((l[i]?).getD ((0, 0), 0, 0)).2.2), [.arr (.prod (.prod (.int .i64) (.int .i64)) (.prod (.int .i64) (.int .i64))) l sz wr]⟩
  | _, _ => noSpec
theorem ok_l01Span : SpecOk Tryd.prog 45 s_l01Span := by
  intro args S h; unfold s_l01Span at h ⊢; (split at h <;> first | exact False.elim h | skip)
  dsimp only at h ⊢
  rename_i i l sz wr
  obtain ⟨⟨⟨p, q⟩, p', q'⟩, ha⟩ := get_some h
  have e : (l[i]?).getD ((0, 0), 0, 0) = ((p, q), p', q') := by rw [ha]; rfl
  rw [e]
  have hc := cmpF_le (p := p) (q := q) (p' := p') (q' := q')
  refine funW tabOk (E := [(44, s_fOk), (70, s_cmp)]) ⟨ok_l01Ok, ok_l01Cmp, trivial⟩ [] (k := 1) (fn := Tryd.f45) rfl rfl rfl rfl rfl rfl ?_
  (repeat' ((try (conv => whnf)); first | (with_reducible first | refine And.intro ?_ ?_ | refine WX.of ?_) | exact zc | ((with_reducible refine VC.mk ?_); exact zw) | refine atL_p ha ?_ | (with_reducible first | refine splitT ?_ | refine splitF ?_) | ((with_reducible refine splitM.mk (fun hsm => ?_) (fun hsm => ?_)) <;> (try exact zx)) | ((with_reducible refine splitB.mk (fun h => ?_) (fun h => ?_)) <;> (try simp only [zs, ne_eq] at h) <;> (try simp (disch := omega) only [w64] at h) <;> (try exact zx)) | (with_reducible intro hz; (try exact absurd hz (Nat.succ_ne_zero _)))))
  · rename_i h1
    exact ⟨⟨smF_ok h1, smF_ok h⟩⟩
  · rename_i h1
    exact ⟨congrArg SV.bool (by unfold spOk; dsimp only; rw [h1, h]; simp only [hc, Bool.true_and])⟩
  · rename_i h1
    exact ⟨congrArg SV.bool (by unfold spOk; dsimp only; rw [h1, h]; rfl)⟩
  · exact ⟨congrArg SV.bool (by unfold spOk; dsimp only; rw [h]; rfl)⟩
end Go.Proofs.YtamachahlhlhlaaDoor.Eng
set_option linter.unusedVariables false
set_option linter.unusedSimpArgs false
namespace Go.Proofs.YtamachahlhlhlaaDoor.Eng
open Go Go.RowKit
set_option maxRecDepth 100000
theorem allF_all {L : List (Int × Int)} (h : allF L = true) {i : Nat} {a : Int × Int} (ha : L[i]? = some a) : fOk a.1 a.2 = true :=
  List.all_eq_true.1 h a (List.mem_of_getElem? ha)
end Go.Proofs.YtamachahlhlhlaaDoor.Eng
set_option linter.unusedVariables false
set_option linter.unusedSimpArgs false
namespace Go.Proofs.YtamachahlhlhlaaDoor.Eng
open Go Go.RowKit
set_option maxRecDepth 100000
end Go.Proofs.YtamachahlhlhlaaDoor.Eng
set_option linter.unusedVariables false
set_option linter.unusedSimpArgs false
namespace Go.Proofs.YtamachahlhlhlaaDoor.Eng
open Go Go.RowKit
set_option maxRecDepth 100000
end Go.Proofs.YtamachahlhlhlaaDoor.Eng
set_option linter.unusedVariables false
set_option linter.unusedSimpArgs false
namespace Go.Proofs.YtamachahlhlhlaaDoor.Eng
open Go Go.RowKit
set_option maxRecDepth 100000
end Go.Proofs.YtamachahlhlhlaaDoor.Eng
set_option linter.unusedVariables false
set_option linter.unusedSimpArgs false
namespace Go.Proofs.YtamachahlhlhlaaDoor.Eng
open Go Go.RowKit
set_option maxRecDepth 100000
end Go.Proofs.YtamachahlhlhlaaDoor.Eng
set_option linter.unusedVariables false
set_option linter.unusedSimpArgs false
namespace Go.Proofs.YtamachahlhlhlaaDoor.Eng
open Go Go.RowKit
set_option maxRecDepth 100000
/-- The program's number of a text: 0 where it is none. -/
def nmb (s : List UInt8) : Int := match Lib.parseIntB 64 s with
  | .ok v => v
  | _ => 0
theorem pu_app : ∀ (a b : List UInt8) (acc k : Nat), Lib.parseUint10 acc a = .ok k → Lib.parseUint10 acc (a ++ b) = Lib.parseUint10 k b
  | [], b, acc, k, h => by
    simp only [Lib.parseUint10] at h
    injection h with h
    rw [h]; rfl
  | x :: a, b, acc, k, h => by
    simp only [List.cons_append, Lib.parseUint10] at h ⊢
    split at h
    · split at h
      · cases h
      · split at h
        · cases h
        · rename_i h1 h2 h3
          rw [if_pos h1, if_neg h2, if_neg h3]
          exact pu_app a b _ k h
    · cases h
theorem pu_decT : ∀ (k : Nat) (n : Int), 0 ≤ n → n < 10 ^ (k + 1) → n ≤ 9223372036854775807 → Lib.parseUint10 0 (decT k n) = .ok n.toNat
  | 0, n, h0, h1, h2 => by
    have h1 : n < 10 := by simpa using h1
    have e := dig_b (d := n % 10) (by omega) (by omega)
    simp only [decT, Lib.parseUint10]
    rw [e, if_pos (by omega), if_neg (by omega), if_neg (by omega)]
    congr 1
    omega
  | k + 1, n, h0, h1, h2 => by
    have e := dig_b (d := n % 10) (by omega) (by omega)
    simp only [decT]
    split
    · simp only [Lib.parseUint10]
      rw [e, if_pos (by omega), if_neg (by omega), if_neg (by omega)]
      congr 1
      omega
    · rw [pu_app _ _ 0 _ (pu_decT k (n / 10) (by omega) (by
        have : (10 : Int) ^ (k + 1 + 1) = 10 ^ (k + 1) * 10 := Int.pow_succ ..
        omega) (by omega))]
      simp only [Lib.parseUint10]
      rw [e, if_pos (by omega), if_neg (by omega), if_neg (by omega)]
      congr 1
      omega
theorem pm_dcl {n : Int} (h0 : 0 ≤ n) (h1 : n ≤ 9223372036854775807) : Lib.parseMag (dcl n) = .ok n.toNat := by
  unfold Lib.parseMag dcl
  rw [if_neg (decT_ne _ _)]
  exact pu_decT 18 n h0 (by
    have : (10 : Int) ^ (18 + 1) = 10000000000000000000 := by decide
    omega) h1
theorem nmb_sgT {n : Int} (h0 : -9223372036854775807 ≤ n) (h1 : n ≤ 9223372036854775807) : nmb (sgT n) = n := by
  unfold nmb
  rw [Lib.parseIntB_64]
  by_cases h : n < 0
  · rw [show sgT n = 45 :: dcl (-n) from if_pos h]
    unfold Lib.atoiAll
    simp only
    rw [if_pos (.inr (by decide)), pm_dcl (by omega) (by omega)]
    simp only
    rw [if_neg (by intro h; exact h.1 (by decide)), if_neg (by omega)]
    simp only
    rw [if_pos (by decide)]
    omega
  · rw [show sgT n = dcl n from if_neg h]
    have hd := dcl_b (n := n) (by omega) h1
    have hp := pm_dcl (n := n) (by omega) h1
    cases e : dcl n with
    | nil => exact absurd e (decT_ne 18 n)
    | cons c r =>
      have hc := hd c (by rw [e]; exact List.mem_cons_self)
      unfold dgB at hc
      rw [e] at hp
      unfold Lib.atoiAll
      simp only
      rw [if_neg (by omega), hp]
      simp only
      rw [if_neg (by omega), if_neg (by omega)]
      simp only
      rw [if_neg (by omega)]
      omega
end Go.Proofs.YtamachahlhlhlaaDoor.Eng
set_option linter.unusedVariables false
set_option linter.unusedSimpArgs false
namespace Go.Proofs.YtamachahlhlhlaaDoor.Eng
open Go Go.RowKit
set_option maxRecDepth 100000
def sh_laysC174_ren : Go.Shelf.Ren := ⟨fun | 174 => 39 | 247 => 59 | 245 => 60 | 287 => 81 | 279 => 82 | 280 => 83 | 281 => 84 | 282 => 85 | 321 => 100 | 322 => 101 | 316 => 102 | 171 => 104 | 205 => 103 | 243 => 113 | 246 => 92 | 283 => 107 | 284 => 108 | 285 => 109 | 286 => 110 | 129 => 115 | 317 => 114 | 318 => 116 | 319 => 117 | 320 => 118 | 337 => 119 | 338 => 120 | n => n, fun | 9 => 9 | 3 => 3 | 2 => 2 | 75 => 74 | 85 => 75 | 4 => 4 | 167 => 118 | 5 => 5 | 53 => 119 | 175 => 120 | 46 => 122 | 168 => 123 | 37 => 78 | 0 => 0 | 210 => 134 | 21 => 21 | 127 => 128 | 145 => 153 | 143 => 151 | 171 => 139 | 173 => 142 | 212 => 155 | 51 => 148 | 20 => 20 | 213 => 156 | 232 => 160 | 233 => 161 | 80 => 107 | n => n, fun | 15 => 1 | 16 => 2 | 17 => 5 | 18 => 6 | 19 => 7 | n => n⟩
theorem sh_laysC174 : Go.Proofs.LaysC.n174 Tryd.prog sh_laysC174_ren := {
  mixed := by kernel_rfl
  f129 := Tryd.func115.trans (congrArg some (by kernel_rfl))
  f171 := Tryd.func104.trans (congrArg some (by kernel_rfl))
  f174 := Tryd.func39.trans (congrArg some (by kernel_rfl))
  f205 := Tryd.func103.trans (congrArg some (by kernel_rfl))
  f243 := Tryd.func113.trans (congrArg some (by kernel_rfl))
  f245 := Tryd.func60.trans (congrArg some (by kernel_rfl))
  f246 := Tryd.func92.trans (congrArg some (by kernel_rfl))
  f247 := Tryd.func59.trans (congrArg some (by kernel_rfl))
  f279 := Tryd.func82.trans (congrArg some (by kernel_rfl))
  f280 := Tryd.func83.trans (congrArg some (by kernel_rfl))
  f281 := Tryd.func84.trans (congrArg some (by kernel_rfl))
  f282 := Tryd.func85.trans (congrArg some (by kernel_rfl))
  f283 := Tryd.func107.trans (congrArg some (by kernel_rfl))
  f284 := Tryd.func108.trans (congrArg some (by kernel_rfl))
  f285 := Tryd.func109.trans (congrArg some (by kernel_rfl))
  f286 := Tryd.func110.trans (congrArg some (by kernel_rfl))
  f287 := Tryd.func81.trans (congrArg some (by kernel_rfl))
  f316 := Tryd.func102.trans (congrArg some (by kernel_rfl))
  f317 := Tryd.func114.trans (congrArg some (by kernel_rfl))
  f318 := Tryd.func116.trans (congrArg some (by kernel_rfl))
  f319 := Tryd.func117.trans (congrArg some (by kernel_rfl))
  f320 := Tryd.func118.trans (congrArg some (by kernel_rfl))
  f321 := Tryd.func100.trans (congrArg some (by kernel_rfl))
  f322 := Tryd.func101.trans (congrArg some (by kernel_rfl))
  f337 := Tryd.func119.trans (congrArg some (by kernel_rfl))
  f338 := Tryd.func120.trans (congrArg some (by kernel_rfl))
  t0 := Tryd.underlying0
  a0 := Tryd.isAgg0
  z0 := Tryd.sizeOf0
  v0 := Tryd.zeroValue0
  t2 := Tryd.underlying2
  a2 := Tryd.isAgg2
  z2 := Tryd.sizeOf2
  v2 := Tryd.zeroValue2
  t3 := Tryd.underlying3
  a3 := Tryd.isAgg3
  z3 := Tryd.sizeOf3
  v3 := Tryd.zeroValue3
  t4 := Tryd.underlying4
  a4 := Tryd.isAgg4
  z4 := Tryd.sizeOf4
  v4 := Tryd.zeroValue4
  t5 := Tryd.underlying5
  a5 := Tryd.isAgg5
  z5 := Tryd.sizeOf5
  v5 := Tryd.zeroValue5
  t9 := Tryd.underlying9
  a9 := Tryd.isAgg9
  z9 := Tryd.sizeOf9
  v9 := Tryd.zeroValue9
  t20 := Tryd.underlying20
  a20 := Tryd.isAgg20
  z20 := Tryd.sizeOf20
  v20 := Tryd.zeroValue20
  t21 := Tryd.underlying21
  a21 := Tryd.isAgg21
  z21 := Tryd.sizeOf21
  v21 := Tryd.zeroValue21
  t37 := Tryd.underlying78
  a37 := Tryd.isAgg78
  z37 := Tryd.sizeOf78
  v37 := Tryd.zeroValue78
  t46 := Tryd.underlying122
  a46 := Tryd.isAgg122
  z46 := Tryd.sizeOf122
  v46 := Tryd.zeroValue122
  t51 := Tryd.underlying148
  a51 := Tryd.isAgg148
  z51 := Tryd.sizeOf148
  v51 := Tryd.zeroValue148
  t53 := Tryd.underlying119
  a53 := Tryd.isAgg119
  z53 := Tryd.sizeOf119
  v53 := Tryd.zeroValue119
  t75 := Tryd.underlying74
  a75 := Tryd.isAgg74
  z75 := Tryd.sizeOf74
  v75 := Tryd.zeroValue74
  t85 := Tryd.underlying75
  a85 := Tryd.isAgg75
  z85 := Tryd.sizeOf75
  v85 := Tryd.zeroValue75
  t127 := Tryd.underlying128
  a127 := Tryd.isAgg128
  z127 := Tryd.sizeOf128
  v127 := Tryd.zeroValue128
  t143 := Tryd.underlying151
  a143 := Tryd.isAgg151
  z143 := Tryd.sizeOf151
  v143 := Tryd.zeroValue151
  t145 := Tryd.underlying153
  a145 := Tryd.isAgg153
  z145 := Tryd.sizeOf153
  v145 := Tryd.zeroValue153
  t167 := Tryd.underlying118
  a167 := Tryd.isAgg118
  z167 := Tryd.sizeOf118
  v167 := Tryd.zeroValue118
  t168 := Tryd.underlying123
  a168 := Tryd.isAgg123
  z168 := Tryd.sizeOf123
  v168 := Tryd.zeroValue123
  t171 := Tryd.underlying139
  a171 := Tryd.isAgg139
  z171 := Tryd.sizeOf139
  v171 := Tryd.zeroValue139
  t173 := Tryd.underlying142
  a173 := Tryd.isAgg142
  z173 := Tryd.sizeOf142
  v173 := Tryd.zeroValue142
  t175 := Tryd.underlying120
  a175 := Tryd.isAgg120
  z175 := Tryd.sizeOf120
  v175 := Tryd.zeroValue120
  t210 := Tryd.underlying134
  a210 := Tryd.isAgg134
  z210 := Tryd.sizeOf134
  v210 := Tryd.zeroValue134
  t212 := Tryd.underlying155
  a212 := Tryd.isAgg155
  z212 := Tryd.sizeOf155
  v212 := Tryd.zeroValue155
  t213 := Tryd.underlying156
  a213 := Tryd.isAgg156
  z213 := Tryd.sizeOf156
  t232 := Tryd.underlying160
  a232 := Tryd.isAgg160
  z232 := Tryd.sizeOf160
  v232 := Tryd.zeroValue160
  t233 := Tryd.underlying161
  a233 := Tryd.isAgg161
  z233 := Tryd.sizeOf161
  v233 := Tryd.zeroValue161
  g15 := by kernel_rfl
  g16 := by kernel_rfl
  g17 := by kernel_rfl
  g18 := by kernel_rfl
  g19 := by kernel_rfl
  t80 := Tryd.underlying107
  a80 := Tryd.isAgg107
  z80 := Tryd.sizeOf107
  v80 := Tryd.zeroValue107
  i0 := by kernel_rfl
  i2 := by kernel_rfl
  i3 := by kernel_rfl
  i4 := by kernel_rfl
  i5 := by kernel_rfl
  i9 := by kernel_rfl
  i20 := by kernel_rfl
  i21 := by kernel_rfl
  i37 := by kernel_rfl
  i46 := by kernel_rfl
  i51 := by kernel_rfl
  i53 := by kernel_rfl
  i75 := by kernel_rfl
  i80 := by kernel_rfl
  i85 := by kernel_rfl
  i127 := by kernel_rfl
  i143 := by kernel_rfl
  i145 := by kernel_rfl
  i167 := by kernel_rfl
  i168 := by kernel_rfl
  i171 := by kernel_rfl
  i173 := by kernel_rfl
  i175 := by kernel_rfl
  i210 := by kernel_rfl
  i212 := by kernel_rfl
  i232 := by kernel_rfl
  i233 := by kernel_rfl
  m15 := by kernel_rfl
  m16 := by kernel_rfl
  m17 := by kernel_rfl
  m18 := by kernel_rfl
  m19 := by kernel_rfl
  c0 := by kernel_rfl
  c2 := by kernel_rfl
  c3 := by kernel_rfl
  c4 := by kernel_rfl
  c5 := by kernel_rfl
  c9 := by kernel_rfl
  c20 := by kernel_rfl
  c21 := by kernel_rfl
  c37 := by kernel_rfl
  c46 := by kernel_rfl
  c51 := by kernel_rfl
  c53 := by kernel_rfl
  c75 := by kernel_rfl
  c80 := by kernel_rfl
  c85 := by kernel_rfl
  c127 := by kernel_rfl
  c143 := by kernel_rfl
  c145 := by kernel_rfl
  c167 := by kernel_rfl
  c168 := by kernel_rfl
  c171 := by kernel_rfl
  c173 := by kernel_rfl
  c175 := by kernel_rfl
  c210 := by kernel_rfl
  c212 := by kernel_rfl
  c213 := by kernel_rfl
  c232 := by kernel_rfl
  c233 := by kernel_rfl }
open Go.RowKit in
/-- strconv.ParseInt(s, 10, 64), AT EVERY STRING THAT SPELLS AN int64 ('Lib.parseIntB 64 s.data.toList = .ok v'): v, AND NO ERROR. (LAID: no walk: one application.) -/
theorem sh_strconv_ParseInt_10_at64_ok (s : ByteArray) (hmax : s.size ≤ 9223372036854775806) (v : Int) (h : Lib.parseIntB 64 s.data.toList = .ok v) (w : World) :
    Calls Tryd.prog 39 #[.string s, .int .i64 10, .int .i64 64] w fun e w' => e = .returned (.tuple #[.int .i64 v, .nilIface]) ∧ (w' = w ∨ ∃ t, w' = Lib.bytesWorld w 5 t) := Any.strconv_ParseInt_10_at64_ok sh_laysC174 s hmax v h w
open Go.RowKit in
theorem sh_strconv_ParseInt_10_at64_syntax_var (s : ByteArray) (hlim : s.size ≤ 281474976710656) (h : Lib.parseIntB 64 s.data.toList = .«syntax») (tp : TypeId) (p : Value) (w : World) (hvar : w.var? Tryd.prog "strconv.ErrSyntax" = some #[.iface tp p]) :
    Calls Tryd.prog 39 #[.string s, .int .i64 10, .int .i64 64] w fun e w' => ∃ N, e = .returned (.tuple #[.int .i64 (0), .iface 123 (.pointer (some ⟨N, 0, none⟩))]) ∧ w.heap.size ≤ N ∧ w'.heap[N]? = some (.cells #[.string ⟨#[80, 97, 114, 115, 101, 73, 110, 116]⟩, .string s, .iface tp p] 134 (0, 0)) ∧ Below w.heap.size w w' := Any.strconv_ParseInt_10_at64_syntax_var sh_laysC174 s hlim h tp p w hvar
open Go.RowKit in
theorem sh_strconv_ParseInt_10_at64_range_var (s : ByteArray) (hlim : s.size ≤ 281474976710656) (h : Lib.parseIntB 64 s.data.toList = .range) (tp : TypeId) (p : Value) (w : World) (hvar : w.var? Tryd.prog "strconv.ErrRange" = some #[.iface tp p]) :
    Calls Tryd.prog 39 #[.string s, .int .i64 10, .int .i64 64] w fun e w' => ∃ N, e = .returned (.tuple #[.int .i64 (Lib.intSat 64 s.data.toList), .iface 123 (.pointer (some ⟨N, 0, none⟩))]) ∧ w.heap.size ≤ N ∧ w'.heap[N]? = some (.cells #[.string ⟨#[80, 97, 114, 115, 101, 73, 110, 116]⟩, .string s, .iface tp p] 134 (0, 0)) ∧ Below w.heap.size w w' := Any.strconv_ParseInt_10_at64_range_var sh_laysC174 s hlim h tp p w hvar
def sh_lays146_ren : Go.Shelf.Ren := ⟨fun | 146 => 20 | 221 => 38 | 268 => 56 | 138 => 57 | 143 => 58 | 195 => 77 | 197 => 78 | 218 => 79 | 219 => 80 | 260 => 95 | 217 => 96 | 225 => 97 | 224 => 98 | 267 => 99 | 266 => 111 | 314 => 112 | n => n, fun | 9 => 9 | 31 => 39 | 3 => 3 | 4 => 4 | 0 => 0 | 105 => 115 | 21 => 21 | 5 => 5 | 46 => 122 | 119 => 144 | 139 => 147 | 138 => 146 | 146 => 149 | 51 => 148 | n => n, fun | 1 => 0 | 3 => 3 | 4 => 4 | n => n⟩
theorem sh_lays146 : Go.Proofs.Lays.n146 Tryd.prog sh_lays146_ren := {
  mixed := by kernel_rfl
  f138 := Tryd.func57.trans (congrArg some (by kernel_rfl))
  f143 := Tryd.func58.trans (congrArg some (by kernel_rfl))
  f146 := Tryd.func20.trans (congrArg some (by kernel_rfl))
  f195 := Tryd.func77.trans (congrArg some (by kernel_rfl))
  f197 := Tryd.func78.trans (congrArg some (by kernel_rfl))
  f217 := Tryd.func96.trans (congrArg some (by kernel_rfl))
  f218 := Tryd.func79.trans (congrArg some (by kernel_rfl))
  f219 := Tryd.func80.trans (congrArg some (by kernel_rfl))
  f221 := Tryd.func38.trans (congrArg some (by kernel_rfl))
  f224 := Tryd.func98.trans (congrArg some (by kernel_rfl))
  f225 := Tryd.func97.trans (congrArg some (by kernel_rfl))
  f260 := Tryd.func95.trans (congrArg some (by kernel_rfl))
  f266 := Tryd.func111.trans (congrArg some (by kernel_rfl))
  f267 := Tryd.func99.trans (congrArg some (by kernel_rfl))
  f268 := Tryd.func56.trans (congrArg some (by kernel_rfl))
  f314 := Tryd.func112.trans (congrArg some (by kernel_rfl))
  t0 := Tryd.underlying0
  a0 := Tryd.isAgg0
  z0 := Tryd.sizeOf0
  v0 := Tryd.zeroValue0
  t3 := Tryd.underlying3
  a3 := Tryd.isAgg3
  z3 := Tryd.sizeOf3
  v3 := Tryd.zeroValue3
  t4 := Tryd.underlying4
  a4 := Tryd.isAgg4
  z4 := Tryd.sizeOf4
  v4 := Tryd.zeroValue4
  t5 := Tryd.underlying5
  a5 := Tryd.isAgg5
  z5 := Tryd.sizeOf5
  v5 := Tryd.zeroValue5
  t9 := Tryd.underlying9
  a9 := Tryd.isAgg9
  z9 := Tryd.sizeOf9
  v9 := Tryd.zeroValue9
  t21 := Tryd.underlying21
  a21 := Tryd.isAgg21
  z21 := Tryd.sizeOf21
  v21 := Tryd.zeroValue21
  t31 := Tryd.underlying39
  a31 := Tryd.isAgg39
  z31 := Tryd.sizeOf39
  v31 := Tryd.zeroValue39
  t46 := Tryd.underlying122
  a46 := Tryd.isAgg122
  z46 := Tryd.sizeOf122
  v46 := Tryd.zeroValue122
  t51 := Tryd.underlying148
  a51 := Tryd.isAgg148
  z51 := Tryd.sizeOf148
  v51 := Tryd.zeroValue148
  t105 := Tryd.underlying115
  a105 := Tryd.isAgg115
  z105 := Tryd.sizeOf115
  v105 := Tryd.zeroValue115
  t119 := Tryd.underlying144
  a119 := Tryd.isAgg144
  z119 := Tryd.sizeOf144
  t138 := Tryd.underlying146
  a138 := Tryd.isAgg146
  z138 := Tryd.sizeOf146
  v138 := Tryd.zeroValue146
  t139 := Tryd.underlying147
  a139 := Tryd.isAgg147
  z139 := Tryd.sizeOf147
  v139 := Tryd.zeroValue147
  t146 := Tryd.underlying149
  a146 := Tryd.isAgg149
  z146 := Tryd.sizeOf149
  v146 := Tryd.zeroValue149
  g1 := by kernel_rfl
  g3 := by kernel_rfl
  g4 := by kernel_rfl }
open Go.RowKit Go.Lib in
/-- strings.Split. (LAID: no walk: one application.) -/
theorem sh_strings_Split (s sep : ByteArray) (m : Int) (w : World) (hs : s.size < 4294967281) (hm : w.cell? ⟨0, 0, none⟩ = some (.int .i64 m)) (h1 : 1 ≤ sep.size) :
    Calls Tryd.prog 20 #[.string s, .string sep] w fun e w' =>
      e = .returned (.slice (some ⟨w.heap.size, 0, none⟩) (Lib.countB s sep + 1) (Lib.countB s sep + 1)) ∧ w' = w.alloc (.cells ((Lib.splitB sep 0 (Lib.countB s sep) s).map Value.string).toArray 9) := Any.strings_Split sh_lays146 (by kernel_rfl) s sep m w hs hm h1
/-- What the world holds of the library's variables. -/
def RdW (w : World) : Prop := (∃ m : Int, w.cell? ⟨0, 0, none⟩ = some (.int .i64 m)) ∧ (∃ (t : TypeId) (p : Value), w.var? Tryd.prog "strconv.ErrSyntax" = some #[.iface t p]) ∧ (∃ (t : TypeId) (p : Value), w.var? Tryd.prog "strconv.ErrRange" = some #[.iface t p])
theorem HRel.rd {w0 w : World} {ι : Ren} {H : Heap} (h : HRel w0 ι H w) : RdW w := by
  obtain ⟨_, ⟨m, hm⟩, ⟨t, p, h1⟩, ⟨t', p', h2⟩⟩ := h.glob.1
  refine ⟨⟨m, ?_⟩, ⟨t, p, var_below h.below h1⟩, ⟨t', p', var_below h.below h2⟩⟩
  rw [h.below.cell (World.block_lt_of_cell? _ _ hm)]
  exact hm
set_option maxRecDepth 100000 in
theorem number_calls (s : List UInt8) (hs : s.length ≤ 1048576) (w : World) (h : RdW w) : Calls Tryd.prog 22 #[.string ⟨⟨s⟩⟩] w fun e w' => e = .returned (.int .i64 (nmb s)) ∧ Below w.heap.size w w' := by
  obtain ⟨_, ⟨t, p, h1⟩, ⟨t', p', h2⟩⟩ := h
  have hsz : (⟨⟨s⟩⟩ : ByteArray).size = s.length := rfl
  cases e : Lib.parseIntB 64 s with
  | ok v =>
    have hn : nmb s = v := by unfold nmb; rw [e]
    rw [hn]
    go_enter Tryd.func22, Tryd.ntmps22
    go_wp2_with (go_at_call 39; refine (sh_strconv_ParseInt_10_at64_ok ⟨⟨s⟩⟩ (by rw [hsz]; omega) v e _).mono ?_; rintro e w' ⟨rfl, hw⟩)
    go_ret
    refine ⟨rfl, ?_⟩
    rcases hw with rfl | ⟨t, rfl⟩
    · exact Below.refl _ _
    · exact Lib.bytesWorld_below _ _ _
  | «syntax» =>
    have hn : nmb s = 0 := by unfold nmb; rw [e]
    rw [hn]
    go_enter Tryd.func22, Tryd.ntmps22
    go_wp2_with (go_at_call 39; refine (sh_strconv_ParseInt_10_at64_syntax_var ⟨⟨s⟩⟩ (by rw [hsz]; omega) e t p _ h1).mono ?_; rintro e w' ⟨N, rfl, _, _, hb⟩)
    go_ret
    exact ⟨rfl, hb⟩
  | range =>
    have hn : nmb s = 0 := by unfold nmb; rw [e]
    rw [hn]
    go_enter Tryd.func22, Tryd.ntmps22
    go_wp2_with (go_at_call 39; refine (sh_strconv_ParseInt_10_at64_range_var ⟨⟨s⟩⟩ (by rw [hsz]; omega) e t' p' _ h2).mono ?_; rintro e w' ⟨N, rfl, _, _, hb⟩)
    go_ret
    exact ⟨rfl, hb⟩
/-- A call of flat values that answers a flat value and leaves what was; what the world holds of the library's variables is told. -/
theorem Runs_flatR {f : FuncId} {H : Heap} {more : List Value} {v : Value} (hen : Enters Tryd.prog f) (hmore : ∀ {ι : Ren} {ys : List Value}, LRel ι more ys → ys = more) (hv : flatV v = true)
    (hcon : ∀ w, RdW w → Calls Tryd.prog f ⟨more⟩ w fun e w' => e = .returned v ∧ Below w.heap.size w w') :
    Runs Tryd.prog f more H (fun u G => u = v ∧ G = H) := by
  refine ⟨hen, fun w0 ι w args' h2 h3 => ?_⟩
  have := hmore h3
  subst this
  refine (hcon w h2.rd).mono fun e w' ⟨he, hb⟩ => ?_
  exact ⟨_, _, _, ι, he, ⟨rfl, rfl⟩, .flat hv, h2.after hb, .refl _ _, OCs.refl _ _, Nat.le_refl _⟩
theorem RunsS_flatR {f : FuncId} {args : List SV} {S : List SB} {v : SV} (hen : Enters Tryd.prog f) (ha : args.all flatS = true) (hv : flatS v = true)
    (hcon : ∀ w, RdW w → Calls Tryd.prog f ⟨args.map toV⟩ w fun e w' => e = .returned (toV v) ∧ Below w.heap.size w w') : RunsS Tryd.prog f args S v S := by
  intro H ρ args' hD hd h
  have e := LDR.fun2 h (map_toV ha ρ)
  subst e
  have hfl := (map_toV ha ρ).flat ha
  have h1 := map_toV (xs := [v]) (by simp [hv]) ρ
  have hvf : flatV (toV v) = true := (List.all_eq_true.1 (h1.flat (by simp [hv]))) _ (by simp)
  obtain ⟨u, r, e1, hdr, _⟩ := h1.inv_cons
  obtain ⟨rfl, _⟩ := List.cons.inj e1
  refine ⟨toV v, H, ρ, Runs_flatR hen (fun hl => (hl.flat_eq fun v hv => List.all_eq_true.1 hfl v hv)) hvf hcon, hdr, .refl hD hd⟩
def s_nmb : Spec := fun args S => match args, S with
  | [.str s], [] => ⟨s.length ≤ 1048576, .int .i64 (nmb s), []⟩
  | _, _ => noSpec
theorem ok_number : SpecOk Tryd.prog 22 s_nmb := by
  intro args S h; unfold s_nmb at h ⊢; (split at h <;> first | exact False.elim h | skip)
  dsimp only at h ⊢
  rename_i s
  exact RunsS_flatR ⟨Tryd.f22, rfl, rfl, rfl⟩ rfl rfl fun w hw => number_calls s h w hw
/-- A call of flat values that answers a new list. -/
theorem Runs_new {f : FuncId} {H : Heap} {more L : List Value} {e : TypeId} (hfl : ∀ v ∈ L, flatV v = true) (hen : Enters Tryd.prog f) (hmore : ∀ {ι : Ren} {ys : List Value}, LRel ι more ys → ys = more)
    (hcon : ∀ w, RdW w → Calls Tryd.prog f ⟨more⟩ w fun ex w' => ex = .returned (.slice (some ⟨w.heap.size, 0, none⟩) L.length L.length) ∧ w' = w.alloc (.cells L.toArray e)) :
    Runs Tryd.prog f more H (fun u G => u = .slice (some ⟨H.length, 0, none⟩) L.length (L.length + 0 + 1) ∧ G = H ++ [some ⟨L, 1, true, true⟩]) := by
  refine ⟨hen, fun w0 ι w args' h2 h3 => ?_⟩
  have := hmore h3
  subst this
  refine (hcon w h2.rd).mono fun ex w' ⟨he, hw⟩ => ?_
  subst hw
  have hp := h2.push ⟨L, 1, true, true⟩ L.toArray e (by simp) (fun j v hv => ⟨v, by simpa using hv, .flat (hfl v (List.mem_of_getElem? hv))⟩) (fun _ => hfl)
  refine ⟨_, _, _, _, he, ⟨rfl, rfl⟩, ?_, hp, upd_ext ι _ _, OCs.push _ H _ (Nat.le_refl _), by simp⟩
  exact .sl _ _ _ _ ⟨w.heap.size, 0, L.toArray.size, 1⟩ _ _ (by simp [upd]) (Nat.le_refl _) (by omega) (by omega) (by simp) (.inl rfl)
end Go.Proofs.YtamachahlhlhlaaDoor.Eng
set_option linter.unusedVariables false
set_option linter.unusedSimpArgs false
namespace Go.Proofs.YtamachahlhlhlaaDoor.Eng
open Go Go.RowKit
set_option maxRecDepth 100000
theorem ix_no {c : UInt8} : ∀ {s : List UInt8}, c ∉ s → Lib.index s [c] = -1
  | [], _ => rfl
  | b :: l, h => by
    have h1 : ¬ c = b := fun e => h (by rw [e]; exact List.mem_cons_self)
    have h2 := ix_no (c := c) (s := l) fun e => h (List.mem_cons_of_mem _ e)
    unfold Lib.index
    rw [if_neg (by simp [List.isPrefixOf, h1]), h2]
    rfl
theorem ix_app {c : UInt8} : ∀ {a b : List UInt8}, c ∉ a → Lib.index (a ++ c :: b) [c] = a.length
  | [], b, _ => by
    simp only [List.nil_append]
    unfold Lib.index
    rw [if_pos (by simp [List.isPrefixOf])]
    rfl
  | x :: a, b, h => by
    have h1 : ¬ c = x := fun e => h (by rw [e]; exact List.mem_cons_self)
    have h2 := ix_app (c := c) (a := a) (b := b) fun e => h (List.mem_cons_of_mem _ e)
    simp only [List.cons_append]
    unfold Lib.index
    rw [if_neg (by simp [List.isPrefixOf, h1]), h2, if_neg (by simp)]
    simp
theorem spl_cases (c : UInt8) : ∀ s : List UInt8, c ∉ s ∨ ∃ a b, s = a ++ c :: b ∧ c ∉ a
  | [] => .inl (by simp)
  | x :: r => by
    by_cases h : c = x
    · subst h; exact .inr ⟨[], r, rfl, by simp⟩
    · rcases spl_cases c r with h1 | ⟨a, b, rfl, h1⟩
      · exact .inl (by simp [h, h1])
      · exact .inr ⟨x :: a, b, rfl, by simp [h, h1]⟩
theorem spl_lib (c : UInt8) : ∀ (n : Nat) (s : List UInt8), s.length ≤ n → Lib.splitK [c] 0 (Lib.count s [c]) s = splL c s ∧ (splL c s).length = Lib.count s [c] + 1
  | 0, s, h => by
    have : s = [] := List.eq_nil_of_length_eq_zero (by omega)
    subst this
    exact ⟨rfl, rfl⟩
  | n + 1, s, h => by
    rcases spl_cases c s with h1 | ⟨a, b, rfl, h1⟩
    · rw [Lib.count_miss (ix_no h1), splL_no h1]
      exact ⟨rfl, rfl⟩
    · have hi := ix_app (b := b) h1
      have hc := Lib.count_hit (sub := [c]) (by simp) hi
      have hd : (a ++ c :: b).drop (a.length + [c].length) = b := by
        rw [List.drop_append]; simp
      rw [hd] at hc
      simp only [List.length_append, List.length_cons] at h
      obtain ⟨g1, g2⟩ := spl_lib c n b (by omega)
      rw [hc, splL_app h1, Nat.add_comm 1]
      refine ⟨?_, by simp [g2]⟩
      unfold Lib.splitK
      rw [if_neg (by rw [hi]; simp), hi]
      have e1 : (a ++ c :: b).take ((a.length : Int).toNat + 0) = a := by simp
      have e2 : (a ++ c :: b).drop ((a.length : Int).toNat + [c].length) = b := by rw [Int.toNat_natCast]; exact hd
      rw [e1, e2, g1]
def s_spl : Spec := fun args S => match args, S with
  | [.str s, .str [c]], [] => ⟨s.length ≤ 1048576, .sl 0 0 (splL c s).length 0, [.arr .str (splL c s) 1 true]⟩
  | _, _ => noSpec
theorem ok_Split : SpecOk Tryd.prog 20 s_spl := by
  intro args S h; unfold s_spl at h ⊢; (split at h <;> first | exact False.elim h | skip)
  dsimp only at h ⊢
  rename_i s c
  obtain ⟨g1, g2⟩ := spl_lib c s.length s (Nat.le_refl _)
  intro H ρ args' hD hd ha
  have e := LDR.fun2 ha (map_toV (xs := [.str s, .str [c]]) rfl ρ)
  subst e
  have hfl : ∀ v ∈ (splL c s).map fun x => toV (.str x), flatV v = true := fun v hv => by
    obtain ⟨x, _, rfl⟩ := List.mem_map.1 hv
    rfl
  have hrun := Runs_new (f := 20) (H := H) (more := [toV (.str s), toV (.str [c])]) (L := (splL c s).map fun x => toV (.str x)) (e := 9) hfl ⟨Tryd.f20, rfl, rfl, rfl⟩
    (fun hy => hy.flat_eq fun v hv => by
      simp only [List.mem_cons, List.not_mem_nil, or_false] at hv
      rcases hv with rfl | rfl <;> rfl) (fun w hw => by
      obtain ⟨⟨m, hm⟩, _⟩ := hw
      have := sh_strings_Split ⟨⟨s⟩⟩ ⟨⟨[c]⟩⟩ m w (by show s.length < _; omega) hm (by show 1 ≤ 1; omega)
      have e3 : (Lib.splitB ⟨⟨[c]⟩⟩ 0 (Lib.countB ⟨⟨s⟩⟩ ⟨⟨[c]⟩⟩) ⟨⟨s⟩⟩).map Value.string = (splL c s).map fun x => toV (.str x) := by
        have := Lib.splitB_data ⟨⟨[c]⟩⟩ 0 (Lib.countB ⟨⟨s⟩⟩ ⟨⟨[c]⟩⟩) ⟨⟨s⟩⟩
        have h9 : Lib.splitK [c] 0 (Lib.count s [c]) s = (Lib.splitB ⟨⟨[c]⟩⟩ 0 (Lib.countB ⟨⟨s⟩⟩ ⟨⟨[c]⟩⟩) ⟨⟨s⟩⟩).map (·.data.toList) := this.symm
        rw [← g1, h9, List.map_map]
        rfl
      rw [e3] at this
      rw [List.length_map, g2]
      exact this)
  rw [List.length_map] at hrun
  refine ⟨_, _, _, hrun, ?_, Step.push (w := 1) hD hd ?_⟩
  · have := DR.sl (ρ := updN ρ 0 (H.length, 1)) 0 0 (splL c s).length 0 H.length 1 (updN_self _ _ _)
    simpa using this
  · refine ⟨rfl, rfl, fun _ => rfl, rfl, ?_⟩
    have h5 := map_toV (xs := (splL c s).flatMap (ET.enc .str)) (flat_all _) (updN ρ 0 (H.length, 1))
    rw [fm_str, List.map_map] at h5
    rw [fm_str]
    exact h5
end Go.Proofs.YtamachahlhlhlaaDoor.Eng
set_option linter.unusedVariables false
set_option linter.unusedSimpArgs false
namespace Go.Proofs.YtamachahlhlhlaaDoor.Eng
open Go Go.RowKit
set_option maxRecDepth 100000
end Go.Proofs.YtamachahlhlhlaaDoor.Eng
set_option linter.unusedVariables false
set_option linter.unusedSimpArgs false
namespace Go.Proofs.YtamachahlhlhlaaDoor.Eng
open Go Go.RowKit
set_option maxRecDepth 100000
theorem splL_len (c : UInt8) : ∀ s, (splL c s).length ≤ s.length + 1
  | [] => by simp [splL]
  | x :: r => by
    have := splL_len c r
    simp only [splL]
    split
    · simp; exact this
    · split
      · rename_i h t e
        rw [e] at this
        simp at this ⊢
        omega
      · simp
end Go.Proofs.YtamachahlhlhlaaDoor.Eng
set_option linter.unusedVariables false
set_option linter.unusedSimpArgs false
namespace Go.Proofs.YtamachahlhlhlaaDoor.Eng
open Go Go.RowKit
set_option maxRecDepth 100000
theorem splL_sub (c : UInt8) : ∀ (s x : List UInt8), x ∈ splL c s → x.length ≤ s.length
  | [], x, h => by simp [splL] at h; subst h; simp
  | y :: r, x, h => by
    simp only [splL] at h
    split at h
    · rcases List.mem_cons.1 h with rfl | h
      · simp
      · have := splL_sub c r x h; simp; omega
    · split at h
      · rename_i a t e
        rcases List.mem_cons.1 h with rfl | h
        · have := splL_sub c r a (by rw [e]; exact List.mem_cons_self); simp; omega
        · have := splL_sub c r x (by rw [e]; exact List.mem_cons_of_mem _ h); simp; omega
      · simp at h; subst h; simp
theorem atL_w {α : Type} {l : List α} {i j : Nat} {a : α} {K : α → Prop} (h : l[i]? = some a) (e : j = i) (hk : K a) : atL l j K := by subst e; exact atL_iff.2 ⟨a, h, hk⟩
end Go.Proofs.YtamachahlhlhlaaDoor.Eng
set_option linter.unusedVariables false
set_option linter.unusedSimpArgs false
namespace Go.Proofs.YtamachahlhlhlaaDoor.Eng
open Go Go.RowKit
set_option maxRecDepth 100000
end Go.Proofs.YtamachahlhlhlaaDoor.Eng
set_option linter.unusedVariables false
set_option linter.unusedSimpArgs false
namespace Go.Proofs.YtamachahlhlhlaaDoor.Eng
open Go Go.RowKit
set_option maxRecDepth 100000
end Go.Proofs.YtamachahlhlhlaaDoor.Eng
set_option linter.unusedVariables false
set_option linter.unusedSimpArgs false
namespace Go.Proofs.YtamachahlhlhlaaDoor.Eng
open Go Go.RowKit
set_option maxRecDepth 100000
def s_splS (c : UInt8) : Spec := fun args S => match args, S with
  | [.str s, .int .u8 k], [] => ⟨s.length ≤ 1048576 ∧ k = (c.toNat : Int), .sl 0 0 (splL c s).length 0, [.arr .str (splL c s) 1 true]⟩
  | _, _ => noSpec
theorem ok_l01Split (c : UInt8) : SpecOk Tryd.prog 13 (s_splS c) := by
  intro args S h; unfold s_splS at h ⊢; (split at h <;> first | exact False.elim h | skip)
  dsimp only at h ⊢
  rename_i s k
  obtain ⟨h1, rfl⟩ := h
  refine funW tabOk (E := []) trivial [] (k := 0) (fn := Tryd.f13) rfl rfl rfl rfl rfl rfl ?_
  (repeat' ((try (conv => whnf)); first | (with_reducible first | refine And.intro ?_ ?_ | refine WX.of ?_) | exact zc | ((with_reducible refine VC.mk ?_); exact zw) | (with_reducible first | refine splitT ?_ | refine splitF ?_) | ((with_reducible refine splitM.mk (fun hsm => ?_) (fun hsm => ?_)) <;> (try exact zx)) | ((with_reducible refine splitB.mk (fun h => ?_) (fun h => ?_)) <;> (try simp only [zs, ne_eq] at h) <;> (try simp (disch := omega) only [w64] at h) <;> (try exact zx)) | (with_reducible intro hz; (try exact absurd hz (Nat.succ_ne_zero _)))))
  refine loopW tabOk (E := []) trivial [] (σ := Nat) (fun i => [(0, .str s), (1, .int .u8 (c.toNat : Int)), (5, .sl 0 0 (spS c s i).1.length 0), (6, .int .i64 ((spS c s i).2 : Nat)), (7, .int .i64 i)]) (fun i => [.arr .str (spS c s i).1 1 true]) (fun i => s.length - i) (fun i => i ≤ s.length) 0 (Nat.zero_le _) ?_ ?_
  · (repeat' ((try (conv => whnf)); first | (with_reducible first | refine And.intro ?_ ?_ | refine WX.of ?_) | exact zc | ((with_reducible refine VC.mk ?_); exact zw) | (with_reducible first | refine splitT ?_ | refine splitF ?_) | ((with_reducible refine splitM.mk (fun hsm => ?_) (fun hsm => ?_)) <;> (try exact zx)) | ((with_reducible refine splitB.mk (fun h => ?_) (fun h => ?_)) <;> (try simp only [zs, ne_eq] at h) <;> (try simp (disch := omega) only [w64] at h) <;> (try exact zx)) | (with_reducible intro hz; (try exact absurd hz (Nat.succ_ne_zero _)))))
  · intro i hi
    obtain ⟨g1, g2, _, _⟩ := spS_inv c s i hi
    by_cases hlt : i < s.length
    · obtain ⟨a, ha⟩ := get_some (l := s) (i := i) hlt
      (repeat' ((try (conv => whnf)); first | (with_reducible first | refine And.intro ?_ ?_ | refine WX.of ?_) | exact zc | ((with_reducible refine VC.mk ?_); exact zw) | with_reducible refine atL_0 ha ?_ | with_reducible refine atL_n ha ?_ | (with_reducible first | refine splitT ?_ | refine splitF ?_) | ((with_reducible refine splitM.mk (fun hsm => ?_) (fun hsm => ?_)) <;> (try exact zx)) | ((with_reducible refine splitB.mk (fun h => ?_) (fun h => ?_)) <;> (try simp only [zs, ne_eq] at h) <;> (try simp (disch := omega) only [w64] at h) <;> (try exact zx)) | (with_reducible intro hz; (try exact absurd hz (Nat.succ_ne_zero _)))))
      · have hac : s[i]? = some c := by
          rw [ha]
          exact congrArg some (UInt8.toNat_inj.1 (Int.ofNat.inj h))
        have e : spS c s (i + 1) = ((spS c s i).1 ++ [(s.take i).drop (spS c s i).2], i + 1) := if_pos hac
        have hrows : seg (spS c s i).1 0 (spS c s i).1.length ++ seg [(s.take ((i : Nat) : Int).toNat).drop (((spS c s i).2 : Nat) : Int).toNat] 0 1 = (spS c s i).1 ++ [(s.take i).drop (spS c s i).2] := by
          rw [seg_all]; rfl
        refine ⟨i + 1, by omega, hlt, ?_⟩
        rw [e]
        (repeat' ((try (conv => whnf)); first | (with_reducible first | refine And.intro ?_ ?_ | refine WX.of ?_) | exact zc | ((with_reducible refine VC.mk ?_); exact zw) | (with_reducible first | refine splitT ?_ | refine splitF ?_) | ((with_reducible refine splitM.mk (fun hsm => ?_) (fun hsm => ?_)) <;> (try exact zx)) | ((with_reducible refine splitB.mk (fun h => ?_) (fun h => ?_)) <;> (try simp only [zs, ne_eq] at h) <;> (try simp (disch := omega) only [w64] at h) <;> (try exact zx)) | (with_reducible intro hz; (try exact absurd hz (Nat.succ_ne_zero _)))))
        all_goals first
          | exact ⟨by simp⟩
          | exact ⟨hrows⟩
      · have hac : ¬ s[i]? = some c := fun hh => by
          rw [ha] at hh
          injection hh with hh
          exact h (by rw [hh])
        have e : spS c s (i + 1) = spS c s i := if_neg hac
        refine ⟨i + 1, by omega, hlt, ?_⟩
        rw [e]
        (repeat' ((try (conv => whnf)); first | (with_reducible first | refine And.intro ?_ ?_ | refine WX.of ?_) | exact zc | ((with_reducible refine VC.mk ?_); exact zw) | (with_reducible first | refine splitT ?_ | refine splitF ?_) | ((with_reducible refine splitM.mk (fun hsm => ?_) (fun hsm => ?_)) <;> (try exact zx)) | ((with_reducible refine splitB.mk (fun h => ?_) (fun h => ?_)) <;> (try simp only [zs, ne_eq] at h) <;> (try simp (disch := omega) only [w64] at h) <;> (try exact zx)) | (with_reducible intro hz; (try exact absurd hz (Nat.succ_ne_zero _)))))
    · obtain rfl : i = s.length := by omega
      have he := spS_end c s
      have hle : (splL c s).length = (spS c s s.length).1.length + 1 := by rw [he]; simp
      have hrw : seg (spS c s s.length).1 0 (spS c s s.length).1.length ++ seg [s.drop (((spS c s s.length).2 : Nat) : Int).toNat] 0 1 = splL c s := by
        rw [seg_all, he]; rfl
      (repeat' ((try (conv => whnf)); first | (with_reducible first | refine And.intro ?_ ?_ | refine WX.of ?_) | exact zc | ((with_reducible refine VC.mk ?_); exact zw) | (with_reducible first | refine splitT ?_ | refine splitF ?_) | ((with_reducible refine splitM.mk (fun hsm => ?_) (fun hsm => ?_)) <;> (try exact zx)) | ((with_reducible refine splitB.mk (fun h => ?_) (fun h => ?_)) <;> (try simp only [zs, ne_eq] at h) <;> (try simp (disch := omega) only [w64] at h) <;> (try exact zx)) | (with_reducible intro hz; (try exact absurd hz (Nat.succ_ne_zero _)))))
      exact ⟨congrArg (fun z => [SB.arr .str z 1 true]) hrw⟩
def s_numS : Spec := fun args S => match args, S with
  | [.str s], [] => ⟨s.length ≤ 1048576, .tup [.int .i64 ((numR s).getD 0), .bool (numR s).isSome], []⟩
  | _, _ => noSpec
end Go.Proofs.YtamachahlhlhlaaDoor.Eng
set_option linter.unusedVariables false
set_option linter.unusedSimpArgs false
namespace Go.Proofs.YtamachahlhlhlaaDoor.Eng
open Go Go.RowKit
set_option maxRecDepth 100000
theorem digR_stop {s : List UInt8} {i : Nat} {n : Int} {x : UInt8} (h : digR 0 (s.take i) = some n) (hx : s[i]? = some x) (hb : x.toNat < 48 ∨ 57 < x.toNat) : digR 0 s = none := by
  obtain ⟨hi, rfl⟩ := List.getElem?_eq_some_iff.1 hx
  have e : s = s.take i ++ s.drop i := (List.take_append_drop i s).symm
  rw [e, digR_app, h, List.drop_eq_getElem_cons hi]
  simp only [Option.bind_some, digR]
  rw [if_pos hb]
theorem digR_go {s : List UInt8} {i : Nat} {n : Int} {x : UInt8} (h : digR 0 (s.take i) = some n) (hx : s[i]? = some x) (h1 : 48 ≤ x.toNat) (h2 : x.toNat ≤ 57) : digR 0 (s.take (i + 1)) = some (10 * n + ((x.toNat : Int) - 48)) := by
  obtain ⟨hi, rfl⟩ := List.getElem?_eq_some_iff.1 hx
  rw [List.take_succ_eq_append_getElem hi, digR_app, h]
  simp only [Option.bind_some, digR]
  rw [if_neg (by omega)]
theorem ten_le {i : Nat} (h : i ≤ 9) : (10 : Int) ^ i ≤ 1000000000 := by
  have : (10 : Nat) ^ i ≤ 10 ^ 9 := Nat.pow_le_pow_right (by decide) h
  have e : ((10 ^ i : Nat) : Int) = (10 : Int) ^ i := by simp
  rw [← e]; omega
theorem ok_l01Number : SpecOk Tryd.prog 15 s_numS := by
  intro args S h; unfold s_numS at h ⊢; (split at h <;> first | exact False.elim h | skip)
  dsimp only at h ⊢
  rename_i s
  refine funW tabOk (E := []) trivial [] (k := 0) (fn := Tryd.f15) rfl rfl rfl rfl rfl rfl ?_
  by_cases h0 : s = []
  · subst h0
    (repeat' ((try (conv => whnf)); first | (with_reducible first | refine And.intro ?_ ?_ | refine WX.of ?_) | exact zc | ((with_reducible refine VC.mk ?_); exact zw) | (with_reducible first | refine splitT ?_ | refine splitF ?_) | ((with_reducible refine splitM.mk (fun hsm => ?_) (fun hsm => ?_)) <;> (try exact zx)) | ((with_reducible refine splitB.mk (fun h => ?_) (fun h => ?_)) <;> (try simp only [zs, ne_eq] at h) <;> (try simp (disch := omega) only [w64] at h) <;> (try exact zx)) | (with_reducible intro hz; (try exact absurd hz (Nat.succ_ne_zero _)))))
  have hl : 1 ≤ s.length := by
    cases s with
    | nil => exact absurd rfl h0
    | cons => simp
  obtain ⟨x0, hx0⟩ := get_some (l := s) (i := 0) (by omega)
  have hd : decide (s = []) = false := decide_eq_false h0
  by_cases h10 : 10 < s.length
  · have e : numR s = none := if_pos (.inr (.inl h10))
    rw [e]
    (repeat' ((try (conv => whnf)); first | (with_reducible first | refine And.intro ?_ ?_ | refine WX.of ?_) | exact zc | ((with_reducible refine VC.mk ?_); exact zw) | with_reducible refine atL_0 hx0 ?_ | ((with_reducible refine splitT_of ?_ ?_); (focus (simp only [hd, Bool.not_true, Bool.not_false, decide_true, decide_false]; done))) | ((with_reducible refine splitF_of ?_ ?_); (focus (simp only [hd, Bool.not_true, Bool.not_false, decide_true, decide_false]; done))) | (with_reducible first | refine splitT ?_ | refine splitF ?_) | ((with_reducible refine splitM.mk (fun hsm => ?_) (fun hsm => ?_)) <;> (try exact zx)) | ((with_reducible refine splitB.mk (fun h => ?_) (fun h => ?_)) <;> (try simp only [zs, ne_eq] at h) <;> (try simp (disch := omega) only [w64] at h) <;> (try exact zx)) | (with_reducible intro hz; (try exact absurd hz (Nat.succ_ne_zero _)))))
  have hxz : s[0]? = some 48 ↔ (x0.toNat : Int) = 48 := by
    rw [hx0]
    constructor
    · intro h; injection h with h; rw [h]; rfl
    · intro h; rw [show x0 = 48 from UInt8.toNat_inj.1 (Int.ofNat.inj h)]
  by_cases hz : s[0]? = some 48 ∧ 1 < s.length
  · have e : numR s = none := if_pos (.inr (.inr hz))
    rw [e]
    have hz1 := hxz.1 hz.1
    (repeat' ((try (conv => whnf)); first | (with_reducible first | refine And.intro ?_ ?_ | refine WX.of ?_) | exact zc | ((with_reducible refine VC.mk ?_); exact zw) | refine atL_w hx0 (by decide) ?_ | ((with_reducible refine splitT_of ?_ ?_); (focus (simp only [hd, Bool.not_true, Bool.not_false, decide_true, decide_false]; done))) | ((with_reducible refine splitF_of ?_ ?_); (focus (simp only [hd, Bool.not_true, Bool.not_false, decide_true, decide_false]; done))) | (with_reducible first | refine splitT ?_ | refine splitF ?_) | ((with_reducible refine splitM.mk (fun hsm => ?_) (fun hsm => ?_)) <;> (try exact zx)) | ((with_reducible refine splitB.mk (fun h => ?_) (fun h => ?_)) <;> (try simp only [zs, ne_eq] at h) <;> (try simp (disch := omega) only [w64] at h) <;> (try exact zx)) | (with_reducible intro hz; (try exact absurd hz (Nat.succ_ne_zero _)))))
  · have e : numR s = digR 0 s := if_neg (by rintro (h | h | h) <;> contradiction)
    have hz1 : (x0.toNat : Int) = 48 → ¬ 1 < s.length := fun h1 h2 => hz ⟨hxz.2 h1, h2⟩
    rw [e]
    (repeat' ((try (conv => whnf)); first | (with_reducible first | refine And.intro ?_ ?_ | refine WX.of ?_) | exact zc | ((with_reducible refine VC.mk ?_); exact zw) | refine atL_w hx0 (by decide) ?_ | ((with_reducible refine splitT_of ?_ ?_); (focus (simp only [hd, Bool.not_true, Bool.not_false, decide_true, decide_false]; done))) | ((with_reducible refine splitF_of ?_ ?_); (focus (simp only [hd, Bool.not_true, Bool.not_false, decide_true, decide_false]; done))) | (with_reducible first | refine splitT ?_ | refine splitF ?_) | ((with_reducible refine splitM.mk (fun hsm => ?_) (fun hsm => ?_)) <;> (try exact zx)) | ((with_reducible refine splitB.mk (fun h => ?_) (fun h => ?_)) <;> (try simp only [zs, ne_eq] at h) <;> (try simp (disch := omega) only [w64] at h) <;> (try exact zx)) | (with_reducible intro hz; (try exact absurd hz (Nat.succ_ne_zero _)))))
    all_goals (try (exfalso; have := hz1 ‹_›; omega))
    all_goals
      refine loopW tabOk (E := []) trivial [] (σ := Nat × Int) (fun i => [(0, .str s), (4, .int .i64 i.2), (5, .int .i64 i.1)]) (fun _ => []) (fun i => s.length - i.1) (fun i => i.1 ≤ s.length ∧ digR 0 (s.take i.1) = some i.2 ∧ 0 ≤ i.2 ∧ i.2 < 10 ^ i.1) (0, 0) ⟨Nat.zero_le _, rfl, by decide, by decide⟩ ?_ ?_
      · (repeat' ((try (conv => whnf)); first | (with_reducible first | refine And.intro ?_ ?_ | refine WX.of ?_) | exact zc | ((with_reducible refine VC.mk ?_); exact zw) | (with_reducible first | refine splitT ?_ | refine splitF ?_) | ((with_reducible refine splitM.mk (fun hsm => ?_) (fun hsm => ?_)) <;> (try exact zx)) | ((with_reducible refine splitB.mk (fun h => ?_) (fun h => ?_)) <;> (try simp only [zs, ne_eq] at h) <;> (try simp (disch := omega) only [w64] at h) <;> (try exact zx)) | (with_reducible intro hz; (try exact absurd hz (Nat.succ_ne_zero _)))))
      · intro ⟨i, n⟩ ⟨hi, hg, hn0, hn1⟩
        dsimp only at hi hg hn0 hn1
        by_cases hlt : i < s.length
        · obtain ⟨x, hx⟩ := get_some (l := s) (i := i) hlt
          have ht := ten_le (i := i) (by omega)
          have hxb := x.toNat_lt
          by_cases hb : x.toNat < 48 ∨ 57 < x.toNat
          · rw [digR_stop hg hx hb]
            (repeat' ((try (conv => whnf)); first | (with_reducible first | refine And.intro ?_ ?_ | refine WX.of ?_) | exact zc | ((with_reducible refine VC.mk ?_); exact zw) | with_reducible refine atL_n hx ?_ | with_reducible refine atL_0 hx ?_ | (with_reducible first | refine splitT ?_ | refine splitF ?_) | ((with_reducible refine splitM.mk (fun hsm => ?_) (fun hsm => ?_)) <;> (try exact zx)) | ((with_reducible refine splitB.mk (fun h => ?_) (fun h => ?_)) <;> (try simp only [zs, ne_eq] at h) <;> (try simp (disch := omega) only [w64] at h) <;> (try exact zx)) | (with_reducible intro hz; (try exact absurd hz (Nat.succ_ne_zero _)))))
            all_goals (exfalso; omega)
          · have hgo := digR_go hg hx (by omega) (by omega)
            (repeat' ((try (conv => whnf)); first | (with_reducible first | refine And.intro ?_ ?_ | refine WX.of ?_) | exact zc | ((with_reducible refine VC.mk ?_); exact zw) | with_reducible refine atL_n hx ?_ | with_reducible refine atL_0 hx ?_ | (with_reducible first | refine splitT ?_ | refine splitF ?_) | ((with_reducible refine splitM.mk (fun hsm => ?_) (fun hsm => ?_)) <;> (try exact zx)) | ((with_reducible refine splitB.mk (fun h => ?_) (fun h => ?_)) <;> (try simp only [zs, ne_eq] at h) <;> (try simp (disch := omega) only [w64] at h) <;> (try exact zx)) | (with_reducible intro hz; (try exact absurd hz (Nat.succ_ne_zero _)))))
            all_goals first
              | (exfalso; omega)
              | skip
            refine ⟨(i + 1, 10 * n + ((x.toNat : Int) - 48)), by dsimp only; omega, ⟨by dsimp only; omega, hgo, by dsimp only; omega, ?_⟩, ?_⟩
            · dsimp only
              rw [Int.pow_succ]; omega
            · have hw : IntKind.i64.wrap (IntKind.i64.wrap (10 * n) + IntKind.i64.wrap (IntKind.u8.wrap ((x.toNat : Int) - 48))) = 10 * n + ((x.toNat : Int) - 48) := by
                have e8 : IntKind.u8.wrap ((x.toNat : Int) - 48) = (x.toNat : Int) - 48 := by simp [IntKind.wrap, IntKind.bits, IntKind.signed]; omega
                rw [e8, w64 (n := 10 * n) (by omega), w64 (n := (x.toNat : Int) - 48) (by omega), w64 (by omega)]
              (repeat' ((try (conv => whnf)); first | (with_reducible first | refine And.intro ?_ ?_ | refine WX.of ?_) | exact zc | ((with_reducible refine VC.mk ?_); exact zw) | ((with_reducible refine VC.mk ?_); dsimp only; (rw [hw]; done)) | (with_reducible first | refine splitT ?_ | refine splitF ?_) | ((with_reducible refine splitM.mk (fun hsm => ?_) (fun hsm => ?_)) <;> (try exact zx)) | ((with_reducible refine splitB.mk (fun h => ?_) (fun h => ?_)) <;> (try simp only [zs, ne_eq] at h) <;> (try simp (disch := omega) only [w64] at h) <;> (try exact zx)) | (with_reducible intro hz; (try exact absurd hz (Nat.succ_ne_zero _)))))
        · obtain rfl : i = s.length := by omega
          rw [List.take_length] at hg
          rw [hg]
          (repeat' ((try (conv => whnf)); first | (with_reducible first | refine And.intro ?_ ?_ | refine WX.of ?_) | exact zc | ((with_reducible refine VC.mk ?_); exact zw) | (with_reducible first | refine splitT ?_ | refine splitF ?_) | ((with_reducible refine splitM.mk (fun hsm => ?_) (fun hsm => ?_)) <;> (try exact zx)) | ((with_reducible refine splitB.mk (fun h => ?_) (fun h => ?_)) <;> (try simp only [zs, ne_eq] at h) <;> (try simp (disch := omega) only [w64] at h) <;> (try exact zx)) | (with_reducible intro hz; (try exact absurd hz (Nat.succ_ne_zero _)))))
end Go.Proofs.YtamachahlhlhlaaDoor.Eng
set_option linter.unusedVariables false
set_option linter.unusedSimpArgs false
namespace Go.Proofs.YtamachahlhlhlaaDoor.Eng
open Go Go.RowKit
set_option maxRecDepth 100000
/-- A fraction's text, a span's. -/
def frT (p q : Int) : List UInt8 := if q = 1 then sgT p else (sgT p ++ [47]) ++ dcl q
def spT (p q p' q' : Int) : List UInt8 := (frT p q ++ [46, 46]) ++ frT p' q'
theorem frT_len (p q : Int) : (frT p q).length ≤ 40 := by
  have h1 := sgT_20 p
  have h2 := decT_19 q
  unfold frT
  split
  · omega
  · simp; omega
theorem spT_len (p q p' q' : Int) : (spT p q p' q').length ≤ 82 := by
  have h1 := frT_len p q
  have h2 := frT_len p' q'
  unfold spT
  simp; omega
def s_frTI : Spec := fun args S => match args, S with
  | [.agg [.int .i64 p, .int .i64 q]], [] => ⟨True, .str (if fOk p q = true then frT p q else []), []⟩
  | _, _ => noSpec
def s_spTI : Spec := fun args S => match args, S with
  | [.agg [.int .i64 p, .int .i64 q, .int .i64 p', .int .i64 q']], [] => ⟨True, .str (if spOk p q p' q' = true then spT p q p' q' else []), []⟩
  | _, _ => noSpec
theorem ok_FracTextI : SpecOk Tryd.prog 71 s_frTI := by
  intro args S h; unfold s_frTI at h ⊢; (split at h <;> first | exact False.elim h | skip)
  dsimp only at h ⊢
  rename_i p q
  by_cases hf : fOk p q = true
  · rw [if_pos hf]
    obtain ⟨h1, h2, h3⟩ := smF_ok hf
    have l1 := sgT_20 p
    have l2 := sgT_20 q
    by_cases hq : q = 1
    · rw [show frT p q = sgT p from if_pos hq]
      refine funW tabOk (E := [(75, s_fOk), (42, s_sgT)]) ⟨ok_ValidFrac, ok_decI, trivial⟩ [] (k := 0) (fn := Tryd.f71) rfl rfl rfl rfl rfl rfl ?_
      (repeat' ((try (conv => whnf)); first | (with_reducible first | refine And.intro ?_ ?_ | refine WX.of ?_) | exact zc | ((with_reducible refine VC.mk ?_); exact zw) | ((with_reducible refine VC.mk ?_); exact ⟨by omega, by omega⟩) | ((with_reducible refine splitT_of ?_ ?_); (focus (simp only [hf, Bool.not_true, Bool.not_true, Bool.not_false, decide_true, decide_false]; done))) | ((with_reducible refine splitF_of ?_ ?_); (focus (simp only [hf, Bool.not_true, Bool.not_true, Bool.not_false, decide_true, decide_false]; done))) | (with_reducible first | refine splitT ?_ | refine splitF ?_) | ((with_reducible refine splitM.mk (fun hsm => ?_) (fun hsm => ?_)) <;> (try exact zx)) | ((with_reducible refine splitB.mk (fun h => ?_) (fun h => ?_)) <;> (try simp only [zs, ne_eq] at h) <;> (try simp (disch := omega) only [w64] at h) <;> (try exact zx)) | (with_reducible intro hz; (try exact absurd hz (Nat.succ_ne_zero _)))))
    · rw [show frT p q = (sgT p ++ [47]) ++ sgT q from by rw [show sgT q = dcl q from if_neg (by omega)]; exact if_neg hq]
      refine funW tabOk (E := [(75, s_fOk), (42, s_sgT)]) ⟨ok_ValidFrac, ok_decI, trivial⟩ [] (k := 0) (fn := Tryd.f71) rfl rfl rfl rfl rfl rfl ?_
      (repeat' ((try (conv => whnf)); first | (with_reducible first | refine And.intro ?_ ?_ | refine WX.of ?_) | exact zc | ((with_reducible refine VC.mk ?_); exact zw) | ((with_reducible refine VC.mk ?_); exact ⟨by omega, by omega⟩) | ((with_reducible refine splitT_of ?_ ?_); (focus (simp only [hf, Bool.not_true, Bool.not_true, Bool.not_false, decide_true, decide_false]; done))) | ((with_reducible refine splitF_of ?_ ?_); (focus (simp only [hf, Bool.not_true, Bool.not_true, Bool.not_false, decide_true, decide_false]; done))) | (with_reducible first | refine splitT ?_ | refine splitF ?_) | ((with_reducible refine splitM.mk (fun hsm => ?_) (fun hsm => ?_)) <;> (try exact zx)) | ((with_reducible refine splitB.mk (fun h => ?_) (fun h => ?_)) <;> (try simp only [zs, ne_eq] at h) <;> (try simp (disch := omega) only [w64] at h) <;> (try exact zx)) | (with_reducible intro hz; (try exact absurd hz (Nat.succ_ne_zero _)))))
      all_goals (refine ⟨?_⟩; simp; omega)
  · rw [if_neg hf]
    have hf : fOk p q = false := by simpa using hf
    refine funW tabOk (E := [(75, s_fOk), (42, s_sgT)]) ⟨ok_ValidFrac, ok_decI, trivial⟩ [] (k := 0) (fn := Tryd.f71) rfl rfl rfl rfl rfl rfl ?_
    (repeat' ((try (conv => whnf)); first | (with_reducible first | refine And.intro ?_ ?_ | refine WX.of ?_) | exact zc | ((with_reducible refine VC.mk ?_); exact zw) | ((with_reducible refine splitT_of ?_ ?_); (focus (simp only [hf, Bool.not_false, Bool.not_true, Bool.not_false, decide_true, decide_false]; done))) | ((with_reducible refine splitF_of ?_ ?_); (focus (simp only [hf, Bool.not_false, Bool.not_true, Bool.not_false, decide_true, decide_false]; done))) | (with_reducible first | refine splitT ?_ | refine splitF ?_) | ((with_reducible refine splitM.mk (fun hsm => ?_) (fun hsm => ?_)) <;> (try exact zx)) | ((with_reducible refine splitB.mk (fun h => ?_) (fun h => ?_)) <;> (try simp only [zs, ne_eq] at h) <;> (try simp (disch := omega) only [w64] at h) <;> (try exact zx)) | (with_reducible intro hz; (try exact absurd hz (Nat.succ_ne_zero _)))))
theorem ok_SpanTextI : SpecOk Tryd.prog 49 s_spTI := by
  intro args S h; unfold s_spTI at h ⊢; (split at h <;> first | exact False.elim h | skip)
  dsimp only at h ⊢
  rename_i p q p' q'
  by_cases hf : spOk p q p' q' = true
  · rw [if_pos hf]
    obtain ⟨h1, h2, h3⟩ := spOk_iff.1 hf
    have l1 := frT_len p q
    have l2 := frT_len p' q'
    refine funW tabOk (E := [(51, s_vSpan), (71, s_frTI)]) ⟨ok_ValidSpan, ok_FracTextI, trivial⟩ [(3, [(5, 0)])] (k := 0) (fn := Tryd.f49) rfl rfl rfl rfl rfl rfl ?_
    (repeat' ((try (conv => whnf)); first | (with_reducible first | refine And.intro ?_ ?_ | refine WX.of ?_) | exact zc | ((with_reducible refine VC.mk ?_); exact zw) | ((with_reducible refine splitT_of ?_ ?_); (focus (simp only [hf, Bool.not_true, Bool.not_true, Bool.not_false, decide_true, decide_false]; done))) | ((with_reducible refine splitF_of ?_ ?_); (focus (simp only [hf, Bool.not_true, Bool.not_true, Bool.not_false, decide_true, decide_false]; done))) | (with_reducible first | refine splitT ?_ | refine splitF ?_) | ((with_reducible refine splitM.mk (fun hsm => ?_) (fun hsm => ?_)) <;> (try exact zx)) | ((with_reducible refine splitB.mk (fun h => ?_) (fun h => ?_)) <;> (try simp only [zs, ne_eq] at h) <;> (try simp (disch := omega) only [w64] at h) <;> (try exact zx)) | (with_reducible intro hz; (try exact absurd hz (Nat.succ_ne_zero _)))))
    all_goals (refine ⟨?_⟩; simp only [h1, h2, if_true]; first | rfl | (simp; omega))
  · rw [if_neg hf]
    have hf : spOk p q p' q' = false := by simpa using hf
    refine funW tabOk (E := [(51, s_vSpan), (71, s_frTI)]) ⟨ok_ValidSpan, ok_FracTextI, trivial⟩ [(3, [(5, 0)])] (k := 0) (fn := Tryd.f49) rfl rfl rfl rfl rfl rfl ?_
    (repeat' ((try (conv => whnf)); first | (with_reducible first | refine And.intro ?_ ?_ | refine WX.of ?_) | exact zc | ((with_reducible refine VC.mk ?_); exact zw) | ((with_reducible refine splitT_of ?_ ?_); (focus (simp only [hf, Bool.not_false, Bool.not_true, Bool.not_false, decide_true, decide_false]; done))) | ((with_reducible refine splitF_of ?_ ?_); (focus (simp only [hf, Bool.not_false, Bool.not_true, Bool.not_false, decide_true, decide_false]; done))) | (with_reducible first | refine splitT ?_ | refine splitF ?_) | ((with_reducible refine splitM.mk (fun hsm => ?_) (fun hsm => ?_)) <;> (try exact zx)) | ((with_reducible refine splitB.mk (fun h => ?_) (fun h => ?_)) <;> (try simp only [zs, ne_eq] at h) <;> (try simp (disch := omega) only [w64] at h) <;> (try exact zx)) | (with_reducible intro hz; (try exact absurd hz (Nat.succ_ne_zero _)))))
/-- Fractions' texts, with blanks between. -/
def frsT (L : List (Int × Int)) : List UInt8 := Lib.join (L.map fun a => frT a.1 a.2) [32]
theorem frsT_len : ∀ {L : List (Int × Int)}, (frsT L).length ≤ 41 * L.length
  | [] => by simp [frsT, Lib.join, List.intercalate]
  | [a] => by have := frT_len a.1 a.2; simp [frsT, Lib.join, List.intercalate]; omega
  | a :: b :: L => by
    have h1 := frT_len a.1 a.2
    have h2 := frsT_len (L := b :: L)
    have e : frsT (a :: b :: L) = frT a.1 a.2 ++ ([32] ++ frsT (b :: L)) := by
      simp [frsT, Lib.join, List.intercalate, List.intersperse]
    rw [e]
    simp only [List.length_append, List.length_cons, List.length_nil] at h2 ⊢
    omega
def s_frsT : Spec := fun args S => match args, S with
  | [.sl 0 s n x], [.arr (.prod (.int .i64) (.int .i64)) l 2 wr] => ⟨(s + n ≤ l.length ∧ 1 ≤ n ∧ n ≤ 100000) ∧ allF (seg l s n) = true, .str (frsT (seg l s n)), [.arr (.prod (.int .i64) (.int .i64)) l 2 wr]⟩
  | _, _ => noSpec
theorem ok_fracTexts : SpecOk Tryd.prog 52 s_frsT := by
  intro args S h; unfold s_frsT at h ⊢; (split at h <;> first | exact False.elim h | skip)
  dsimp only at h ⊢
  rename_i s n x l wr
  obtain ⟨⟨h1, h2, h4⟩, hV⟩ := h
  have hL := seg_len h1
  refine funW tabOk (E := [(71, s_frTI), (41, s_join)]) ⟨ok_FracTextI, ok_join, trivial⟩ [] (k := 1) (fn := Tryd.f52) rfl rfl rfl rfl rfl rfl ?_
  (repeat' ((try (conv => whnf)); first | (with_reducible first | refine And.intro ?_ ?_ | refine WX.of ?_) | exact zc | ((with_reducible refine VC.mk ?_); exact zw) | (with_reducible first | refine splitT ?_ | refine splitF ?_) | ((with_reducible refine splitM.mk (fun hsm => ?_) (fun hsm => ?_)) <;> (try exact zx)) | ((with_reducible refine splitB.mk (fun h => ?_) (fun h => ?_)) <;> (try simp only [zs, ne_eq] at h) <;> (try simp (disch := omega) only [w64] at h) <;> (try exact zx)) | (with_reducible intro hz; (try exact absurd hz (Nat.succ_ne_zero _)))))
  refine loopW tabOk (E := [(71, s_frTI), (41, s_join)]) ⟨ok_FracTextI, ok_join, trivial⟩ [] (σ := Nat) (fun i => [(3, .sl 1 0 i 0), (7, .sl 0 s n x), (8, .int .i64 n), (9, .int .i64 i)]) (fun i => [.arr (.prod (.int .i64) (.int .i64)) l 2 wr, .arr .str (((seg l s n).map fun a => frT a.1 a.2).take i) 1 true]) (fun i => n - i) (fun i => i ≤ n) 0 (Nat.zero_le _) ?_ ?_
  · (repeat' ((try (conv => whnf)); first | (with_reducible first | refine And.intro ?_ ?_ | refine WX.of ?_) | exact zc | ((with_reducible refine VC.mk ?_); exact zw) | (with_reducible first | refine splitT ?_ | refine splitF ?_) | ((with_reducible refine splitM.mk (fun hsm => ?_) (fun hsm => ?_)) <;> (try exact zx)) | ((with_reducible refine splitB.mk (fun h => ?_) (fun h => ?_)) <;> (try simp only [zs, ne_eq] at h) <;> (try simp (disch := omega) only [w64] at h) <;> (try exact zx)) | (with_reducible intro hz; (try exact absurd hz (Nat.succ_ne_zero _)))))
  · intro i hi
    have hlen : (((seg l s n).map fun a => frT a.1 a.2).take i).length = i := by rw [List.length_take, List.length_map]; omega
    by_cases hlt : i < n
    · obtain ⟨⟨p, q⟩, ha⟩ := get_some (l := seg l s n) (i := i) (by omega)
      have hf : fOk p q = true := allF_all hV ha
      (repeat' ((try (conv => whnf)); first | (with_reducible first | refine And.intro ?_ ?_ | refine WX.of ?_) | exact zc | ((with_reducible refine VC.mk ?_); exact zw) | with_reducible refine atL_i ha ?_ | (with_reducible first | refine splitT ?_ | refine splitF ?_) | ((with_reducible refine splitM.mk (fun hsm => ?_) (fun hsm => ?_)) <;> (try exact zx)) | ((with_reducible refine splitB.mk (fun h => ?_) (fun h => ?_)) <;> (try simp only [zs, ne_eq] at h) <;> (try simp (disch := omega) only [w64] at h) <;> (try exact zx)) | (with_reducible intro hz; (try exact absurd hz (Nat.succ_ne_zero _)))))
      refine ⟨i + 1, by omega, hlt, ?_⟩
      (repeat' ((try (conv => whnf)); first | (with_reducible first | refine And.intro ?_ ?_ | refine WX.of ?_) | exact zc | ((with_reducible refine VC.mk ?_); exact zw) | (with_reducible first | refine splitT ?_ | refine splitF ?_) | ((with_reducible refine splitM.mk (fun hsm => ?_) (fun hsm => ?_)) <;> (try exact zx)) | ((with_reducible refine splitB.mk (fun h => ?_) (fun h => ?_)) <;> (try simp only [zs, ne_eq] at h) <;> (try simp (disch := omega) only [w64] at h) <;> (try exact zx)) | (with_reducible intro hz; (try exact absurd hz (Nat.succ_ne_zero _)))))
      have hg : ((seg l s n).map fun a => frT a.1 a.2)[i]? = some (if fOk p q = true then frT p q else []) := by rw [List.getElem?_map, ha, if_pos hf]; rfl
      exact ⟨app_take hg⟩
    · obtain rfl : i = n := by omega
      have hall : ((seg l s i).map fun a => frT a.1 a.2).take i = (seg l s i).map fun a => frT a.1 a.2 := List.take_of_length_le (by rw [List.length_map]; omega)
      have hjl := frsT_len (L := seg l s i)
      rw [hall] at hlen
      rw [hall]
      (repeat' ((try (conv => whnf)); first | (with_reducible first | refine And.intro ?_ ?_ | refine WX.of ?_) | exact zc | ((with_reducible refine VC.mk ?_); exact zw) | (with_reducible first | refine splitT ?_ | refine splitF ?_) | ((with_reducible refine splitM.mk (fun hsm => ?_) (fun hsm => ?_)) <;> (try exact zx)) | ((with_reducible refine splitB.mk (fun h => ?_) (fun h => ?_)) <;> (try simp only [zs, ne_eq] at h) <;> (try simp (disch := omega) only [w64] at h) <;> (try exact zx)) | (with_reducible intro hz; (try exact absurd hz (Nat.succ_ne_zero _)))))
      · exact ⟨hlen.symm, ⟨by omega, by omega⟩, Nat.le_trans hjl (by omega)⟩
end Go.Proofs.YtamachahlhlhlaaDoor.Eng
set_option linter.unusedVariables false
set_option linter.unusedSimpArgs false
namespace Go.Proofs.YtamachahlhlhlaaDoor.Eng
open Go Go.RowKit
set_option maxRecDepth 100000
theorem decT_num : ∀ (k : Nat) (s : List UInt8) (n : Int), s ≠ [] → s.length ≤ k + 1 → ¬ (s[0]? = some 48 ∧ 1 < s.length) → digR 0 s = some n → (0 ≤ n ∧ n < 10 ^ s.length) ∧ (s[0]? ≠ some 48 → 1 ≤ n) ∧ decT k n = s := by
  intro k
  induction k with
  | zero =>
    intro s n h0 hl hz hd
    match s, h0, hl with
    | [x], _, _ =>
      simp only [digR] at hd
      split at hd
      · cases hd
      · rename_i hx
        injection hd with hd
        subst hd
        refine ⟨⟨by omega, by simp; omega⟩, fun h => ?_, ?_⟩
        · have : x.toNat ≠ 48 := fun e => h (by simp; exact UInt8.toNat_inj.1 e)
          omega
        · simp only [decT]
          rw [show (48 + (10 * 0 + ((x.toNat : Int) - 48)) % 10).toNat = x.toNat by omega, UInt8.ofNat_toNat]
  | succ k ih =>
    intro s n h0 hl hz hd
    obtain ⟨a, x, rfl⟩ : ∃ a x, s = a ++ [x] := ⟨s.dropLast, s.getLast h0, (List.dropLast_concat_getLast h0).symm⟩
    rw [digR_app] at hd
    cases e : digR 0 a with
    | none => rw [e] at hd; cases hd
    | some m =>
      rw [e] at hd
      simp only [Option.bind_some, digR] at hd
      split at hd
      · cases hd
      · rename_i hx
        injection hd with hd
        subst hd
        by_cases ha : a = []
        · subst ha
          simp only [digR, Option.some.injEq] at e
          subst e
          refine ⟨⟨by omega, by simp; omega⟩, fun h => ?_, ?_⟩
          · have : x.toNat ≠ 48 := fun e => h (by simp; exact UInt8.toNat_inj.1 e)
            omega
          · simp only [decT]
            rw [if_pos (by omega), show (48 + (10 * 0 + ((x.toNat : Int) - 48)) % 10).toNat = x.toNat by omega, UInt8.ofNat_toNat]
            rfl
        · have hla : 1 ≤ a.length := by
            cases a with
            | nil => exact absurd rfl ha
            | cons => simp
          have h00 : (a ++ [x])[0]? = a[0]? := List.getElem?_append_left hla
          rw [h00] at hz ⊢
          have hz1 : a[0]? ≠ some 48 := fun h => hz ⟨h, by simp; omega⟩
          obtain ⟨⟨g1, g2⟩, g3, g4⟩ := ih a m ha (by simp at hl; omega) (fun h => hz1 h.1) e
          have g3 := g3 hz1
          refine ⟨⟨by omega, ?_⟩, fun _ => by omega, ?_⟩
          · rw [List.length_append, List.length_singleton, Int.pow_succ]
            omega
          · simp only [decT]
            rw [if_neg (by omega), show (10 * m + ((x.toNat : Int) - 48)) / 10 = m by omega, g4, show (48 + (10 * m + ((x.toNat : Int) - 48)) % 10).toNat = x.toNat by omega, UInt8.ofNat_toNat]
theorem numR_to {s : List UInt8} {n : Int} (h : numR s = some n) : dcl n = s ∧ 0 ≤ n ∧ n < 10000000000 := by
  unfold numR at h
  split at h
  · cases h
  · rename_i hc
    have h1 : s ≠ [] := fun e => hc (.inl e)
    have h2 : s.length ≤ 10 := by
      rcases Nat.lt_or_ge 10 s.length with h2 | h2
      · exact absurd (.inr (.inl h2)) hc
      · exact h2
    obtain ⟨⟨g1, g2⟩, _, g3⟩ := decT_num 18 s n h1 (by omega) (fun e => hc (.inr (.inr e))) h
    have : (10 : Nat) ^ s.length ≤ 10 ^ 10 := Nat.pow_le_pow_right (by decide) h2
    have e : ((10 ^ s.length : Nat) : Int) = (10 : Int) ^ s.length := by simp
    refine ⟨g3, g1, ?_⟩
    rw [← e] at g2
    omega
theorem sgnR_to {s : List UInt8} {n : Int} (h : sgnR s = some n) : sgT n = s ∧ -10000000000 < n ∧ n < 10000000000 := by
  unfold sgnR at h
  split at h
  · rename_i r
    cases e : numR r with
    | none => rw [e] at h; cases h
    | some m =>
      rw [e] at h
      simp only [Option.bind_some] at h
      split at h
      · rename_i hm
        injection h with h
        subst h
        obtain ⟨g1, g2, g3⟩ := numR_to e
        refine ⟨?_, by omega, by omega⟩
        unfold sgT
        rw [if_pos (by omega), Int.neg_neg, g1]
      · cases h
  · obtain ⟨g1, g2, g3⟩ := numR_to h
    refine ⟨?_, by omega, by omega⟩
    unfold sgT
    rw [if_neg (by omega), g1]
theorem numR_b (s : List UInt8) : 0 ≤ (numR s).getD 0 ∧ (numR s).getD 0 < 10000000000 := by
  cases e : numR s with
  | none => simp
  | some n => exact (numR_to e).2
theorem splL_cons {c : UInt8} {t a : List UInt8} {r : List (List UInt8)} (h : splL c t = a :: r) : c ∉ a ∧ ((r = [] ∧ t = a) ∨ ∃ t', t = a ++ c :: t' ∧ splL c t' = r) := by
  rcases spl_cases c t with h1 | ⟨a', b, rfl, h1⟩
  · rw [splL_no h1] at h
    injection h with h2 h3
    subst h2
    exact ⟨h1, .inl ⟨h3.symm, rfl⟩⟩
  · rw [splL_app h1] at h
    injection h with h2 h3
    subst h2
    exact ⟨h1, .inr ⟨b, rfl, h3⟩⟩
/-- A fraction read; what is answered beside a 'no'. -/
def frR (t : List UInt8) : Option (Int × Int) := match splL 47 t with
  | [a] => (sgnR a).bind fun p => if fOk p 1 = true then some (p, 1) else none
  | [a, b] => (sgnR a).bind fun p => (numR b).bind fun q => if q ≠ 1 ∧ fOk p q = true then some (p, q) else none
  | _ => none
def frJ (t : List UInt8) : Int × Int := match splL 47 t with
  | [a] => ((sgnR a).getD 0, 1)
  | [a, b] => ((sgnR a).getD 0, (numR b).getD 0)
  | _ => (0, 0)
theorem frJ_eq {t : List UInt8} {x : Int × Int} (h : frR t = some x) : frJ t = x := by
  unfold frR at h; unfold frJ
  split at h
  · rename_i a e
    cases e1 : sgnR a with
    | none => rw [e1] at h; cases h
    | some p =>
      rw [e1] at h
      simp only [Option.bind_some] at h
      split at h
      · injection h with h
      · cases h
  · rename_i a b e
    cases e1 : sgnR a with
    | none => rw [e1] at h; cases h
    | some p =>
      cases e2 : numR b with
      | none => rw [e1, e2] at h; cases h
      | some q =>
        rw [e1, e2] at h
        simp only [Option.bind_some] at h
        split at h
        · injection h with h
        · cases h
  · cases h
theorem sgT_bf {p q : Int} (h : fOk p q = true) : ∀ x ∈ sgT p, dgB x ∨ x = 45 := by
  rw [fOk_iff] at h
  exact sgT_b (by omega) (by omega)
theorem dcl_bf {p q : Int} (h : fOk p q = true) : ∀ x ∈ dcl q, dgB x := by
  rw [fOk_iff] at h
  exact dcl_b (by omega) (by omega)
theorem frT_b {p q : Int} (h : fOk p q = true) : ∀ x ∈ frT p q, dgB x ∨ x = 45 ∨ x = 47 := by
  intro x hx
  unfold frT at hx
  split at hx
  · rcases sgT_bf h x hx with h1 | h1
    · exact .inl h1
    · exact .inr (.inl h1)
  · rcases List.mem_append.1 hx with hx | hx
    · rcases List.mem_append.1 hx with hx | hx
      · rcases sgT_bf h x hx with h1 | h1
        · exact .inl h1
        · exact .inr (.inl h1)
      · exact .inr (.inr (by simpa using hx))
    · exact .inl (dcl_bf h x hx)
theorem frT_no {p q : Int} (h : fOk p q = true) {c : UInt8} (hc : c.toNat < 45 ∨ c.toNat = 46 ∨ 57 < c.toNat) : c ∉ frT p q := fun hm => by
  rcases frT_b h c hm with h1 | h1 | h1
  · unfold dgB at h1; omega
  · subst h1; exact absurd hc (by decide)
  · subst h1; exact absurd hc (by decide)
theorem sgT_no {p q : Int} (h : fOk p q = true) {c : UInt8} (hc : c.toNat < 45 ∨ (45 < c.toNat ∧ c.toNat < 48) ∨ 57 < c.toNat) : c ∉ sgT p := fun hm => by
  rcases sgT_bf h c hm with h1 | h1
  · unfold dgB at h1; omega
  · subst h1; exact absurd hc (by decide)
theorem dcl_no {p q : Int} (h : fOk p q = true) {c : UInt8} (hc : c.toNat < 48 ∨ 57 < c.toNat) : c ∉ dcl q := fun hm => by
  have h1 := dcl_bf h c hm
  unfold dgB at h1; omega
theorem sgT_ne (n : Int) : sgT n ≠ [] := by
  unfold sgT
  split
  · simp
  · exact decT_ne _ _
theorem frT_ne (p q : Int) : frT p q ≠ [] := by
  unfold frT
  split
  · exact sgT_ne _
  · simp
theorem fr_of {p q : Int} (h : fOk p q = true) : frR (frT p q) = some (p, q) := by
  have h1 := fOk_iff.1 h
  unfold frT
  by_cases hq : q = 1
  · rw [if_pos hq]
    subst hq
    unfold frR
    rw [splL_no (sgT_no h (by decide))]
    simp only
    rw [sgnR_sgT (by omega) (by omega)]
    simp only [Option.bind_some]
    rw [if_pos h]
  · rw [if_neg hq]
    unfold frR
    rw [List.append_assoc, List.singleton_append, splL_app (sgT_no h (by decide)), splL_no (dcl_no h (by decide))]
    simp only
    rw [sgnR_sgT (by omega) (by omega), numR_dcl (by omega) (by omega)]
    simp only [Option.bind_some]
    rw [if_pos ⟨hq, h⟩]
theorem fr_to {t : List UInt8} {p q : Int} (h : frR t = some (p, q)) : fOk p q = true ∧ frT p q = t := by
  unfold frR at h
  split at h
  · rename_i a e
    cases e1 : sgnR a with
    | none => rw [e1] at h; cases h
    | some p' =>
      rw [e1] at h
      simp only [Option.bind_some] at h
      split at h
      · rename_i hf
        injection h with h
        injection h with h2 h3
        subst h2; subst h3
        refine ⟨hf, ?_⟩
        rcases (splL_cons e).2 with ⟨_, rfl⟩ | ⟨t', _, h'⟩
        · unfold frT
          rw [if_pos rfl, (sgnR_to e1).1]
        · exact absurd h' (splL_ne _ _)
      · cases h
  · rename_i a b e
    cases e1 : sgnR a with
    | none => rw [e1] at h; cases h
    | some p' =>
      cases e2 : numR b with
      | none => rw [e1, e2] at h; cases h
      | some q' =>
        rw [e1, e2] at h
        simp only [Option.bind_some] at h
        split at h
        · rename_i hf
          injection h with h
          injection h with h2 h3
          subst h2; subst h3
          refine ⟨hf.2, ?_⟩
          rcases (splL_cons e).2 with ⟨h', _⟩ | ⟨t', rfl, h'⟩
          · cases h'
          · rcases (splL_cons h').2 with ⟨_, rfl⟩ | ⟨t', _, h'⟩
            · unfold frT
              rw [if_neg hf.1, (sgnR_to e1).1, (numR_to e2).1, List.append_assoc]; rfl
            · exact absurd h' (splL_ne _ _)
        · cases h
  · cases h
theorem frR_iff {t : List UInt8} {p q : Int} : frR t = some (p, q) ↔ fOk p q = true ∧ frT p q = t := ⟨fr_to, fun h => by rw [← h.2]; exact fr_of h.1⟩
/-- Up to the first dot. -/
def dtw (t : List UInt8) : List UInt8 := t.takeWhile (· != 46)
theorem dtw_at : ∀ {t : List UInt8} {i : Nat}, (∀ j, j < i → t[j]? ≠ some 46) → t[i]? = some 46 → dtw t = t.take i
  | [], i, _, h => by simp at h
  | x :: t, 0, _, h => by
    simp at h; subst h; rfl
  | x :: t, i + 1, h1, h2 => by
    have hx : x ≠ 46 := fun e => h1 0 (by omega) (by simp [e])
    have := dtw_at (t := t) (i := i) (fun j hj => by simpa using h1 (j + 1) (by omega)) (by simpa using h2)
    unfold dtw at this ⊢
    rw [List.takeWhile_cons, if_pos (by simpa using hx), this]; rfl
theorem dtw_len : ∀ {t : List UInt8} {i : Nat}, (∀ j, j < i → t[j]? ≠ some 46) → i ≤ t.length → i ≤ (dtw t).length
  | t, 0, _, _ => Nat.zero_le _
  | [], i + 1, _, h => by simp at h
  | x :: t, i + 1, h1, h2 => by
    have hx : x ≠ 46 := fun e => h1 0 (by omega) (by simp [e])
    have := dtw_len (t := t) (i := i) (fun j hj => by simpa using h1 (j + 1) (by omega)) (by simpa using h2)
    unfold dtw at this ⊢
    rw [List.takeWhile_cons, if_pos (by simpa using hx)]
    simpa using this
theorem dtw_app {a b : List UInt8} (h : (46 : UInt8) ∉ a) : dtw (a ++ 46 :: b) = a := by
  rw [dtw_at (i := a.length)]
  · simp
  · intro j hj hh
    rw [List.getElem?_append_left hj] at hh
    exact h (List.mem_of_getElem? hh)
  · rw [List.getElem?_append_right (Nat.le_refl _)]; simp
theorem dtw_dot : ∀ {t : List UInt8}, (dtw t).length < t.length → t[(dtw t).length]? = some 46
  | [], h => by simp at h
  | x :: t, h => by
    by_cases hx : x = 46
    · subst hx; rfl
    · have e : dtw (x :: t) = x :: dtw t := by
        unfold dtw
        rw [List.takeWhile_cons, if_pos (by simpa using hx)]
      rw [e] at h ⊢
      simpa using dtw_dot (t := t) (by simpa using h)
def spnR (t : List UInt8) : Option ((Int × Int) × (Int × Int)) :=
  if (dtw t).length + 1 < t.length ∧ t[(dtw t).length + 1]? = some 46 then (frR (dtw t)).bind fun a => (frR (t.drop ((dtw t).length + 2))).bind fun b => if spOk a.1 a.2 b.1 b.2 = true then some (a, b) else none else none
def spnJ (t : List UInt8) : (Int × Int) × (Int × Int) := if (dtw t).length + 1 < t.length then (frJ (dtw t), frJ (t.drop ((dtw t).length + 2))) else ((0, 0), (0, 0))
theorem spJ_eq {t : List UInt8} {x : (Int × Int) × (Int × Int)} (h : spnR t = some x) : spnJ t = x := by
  unfold spnR at h; unfold spnJ
  split at h
  · rename_i hc
    rw [if_pos hc.1]
    cases e1 : frR (dtw t) with
    | none => rw [e1] at h; cases h
    | some a =>
      cases e2 : frR (t.drop ((dtw t).length + 2)) with
      | none => rw [e1, e2] at h; cases h
      | some b =>
        rw [e1, e2] at h
        simp only [Option.bind_some] at h
        split at h
        · injection h with h
          rw [frJ_eq e1, frJ_eq e2, h]
        · cases h
  · cases h
theorem sp_to {t : List UInt8} {p q p' q' : Int} (h : spnR t = some ((p, q), (p', q'))) : spOk p q p' q' = true ∧ spT p q p' q' = t := by
  unfold spnR at h
  split at h
  · rename_i hc
    cases e1 : frR (dtw t) with
    | none => rw [e1] at h; cases h
    | some a =>
      cases e2 : frR (t.drop ((dtw t).length + 2)) with
      | none => rw [e1, e2] at h; cases h
      | some b =>
        rw [e1, e2] at h
        simp only [Option.bind_some] at h
        split at h
        · rename_i hs
          injection h with h
          injection h with h1 h2
          subst h1; subst h2
          refine ⟨hs, ?_⟩
          obtain ⟨_, g1⟩ := fr_to e1
          obtain ⟨_, g2⟩ := fr_to e2
          have hp : dtw t <+: t := List.takeWhile_prefix _
          have ht : t.take (dtw t).length = dtw t := (List.prefix_iff_eq_take.1 hp).symm
          have hd : t[(dtw t).length]? = some 46 := dtw_dot (by omega)
          unfold spT
          rw [g1, g2]
          have e : t = t.take (dtw t).length ++ t.drop (dtw t).length := (List.take_append_drop _ _).symm
          have hl1 : (dtw t).length < t.length := by omega
          have d1 : t.drop (dtw t).length = 46 :: 46 :: t.drop ((dtw t).length + 2) := by
            rw [List.drop_eq_getElem_cons hl1, List.drop_eq_getElem_cons hc.1]
            have a1 := hd
            have a2 := hc.2
            rw [List.getElem?_eq_getElem hl1] at a1
            rw [List.getElem?_eq_getElem hc.1] at a2
            injection a1 with a1
            injection a2 with a2
            rw [a1, a2]
          conv => rhs; rw [e, ht, d1]
          simp
        · cases h
  · cases h
theorem sp_of {p q p' q' : Int} (h : spOk p q p' q' = true) : spnR (spT p q p' q') = some ((p, q), (p', q')) := by
  obtain ⟨h1, h2, h3⟩ := spOk_iff.1 h
  have e : spT p q p' q' = frT p q ++ 46 :: 46 :: frT p' q' := by simp [spT]
  have e1 : dtw (spT p q p' q') = frT p q := by rw [e]; exact dtw_app (frT_no h1 (by decide))
  have hl := frT_ne p' q'
  unfold spnR
  rw [e1, e, if_pos ⟨by simp, by rw [List.getElem?_append_right (by omega)]; simp⟩, fr_of h1]
  have e2 : (frT p q ++ 46 :: 46 :: frT p' q').drop ((frT p q).length + 2) = frT p' q' := by
    rw [List.drop_append]; simp
  rw [e2, fr_of h2]
  simp only [Option.bind_some]
  rw [if_pos h]
theorem spnR_iff {t : List UInt8} {p q p' q' : Int} : spnR t = some ((p, q), (p', q')) ↔ spOk p q p' q' = true ∧ spT p q p' q' = t := ⟨sp_to, fun h => by rw [← h.2]; exact sp_of h.1⟩
end Go.Proofs.YtamachahlhlhlaaDoor.Eng
set_option linter.unusedVariables false
set_option linter.unusedSimpArgs false
namespace Go.Proofs.YtamachahlhlhlaaDoor.Eng
open Go Go.RowKit
set_option maxRecDepth 100000
theorem cut_1 {c : UInt8} {a b : List UInt8} (h : c ∉ a) : Lib.cut (a ++ c :: b) [c] = (a, b, true) := by
  unfold Lib.cut
  rw [ix_app h, if_pos (by omega), Int.toNat_natCast]
  have e2 : (a ++ c :: b).drop (a.length + [c].length) = b := by rw [List.drop_append]; simp
  rw [e2]; simp
theorem cut_0 {c : UInt8} {a : List UInt8} (h : c ∉ a) : Lib.cut a [c] = (a, [], false) := by
  unfold Lib.cut
  rw [ix_no h, if_neg (by decide)]
theorem ix_2 {c : UInt8} : ∀ {a b : List UInt8}, c ∉ a → Lib.index (a ++ c :: c :: b) [c, c] = a.length
  | [], b, _ => by
    simp only [List.nil_append]
    unfold Lib.index
    rw [if_pos (by simp [List.isPrefixOf])]
    rfl
  | x :: a, b, h => by
    have h1 : ¬ c = x := fun e => h (by rw [e]; exact List.mem_cons_self)
    have h2 := ix_2 (c := c) (a := a) (b := b) fun e => h (List.mem_cons_of_mem _ e)
    simp only [List.cons_append]
    unfold Lib.index
    rw [if_neg (by simp [List.isPrefixOf, h1]), h2, if_neg (by simp)]
    simp
theorem cut_2 {c : UInt8} {a b : List UInt8} (h : c ∉ a) : Lib.cut (a ++ c :: c :: b) [c, c] = (a, b, true) := by
  unfold Lib.cut
  rw [ix_2 h, if_pos (by omega), Int.toNat_natCast]
  have e2 : (a ++ c :: c :: b).drop (a.length + [c, c].length) = b := by rw [List.drop_append]; simp
  rw [e2]; simp
theorem cut_len (s p : List UInt8) : (Lib.cut s p).1.length ≤ s.length ∧ (Lib.cut s p).2.1.length ≤ s.length := by
  unfold Lib.cut
  split
  · simp only [List.length_take, List.length_drop]
    omega
  · simp
def frO (t : List UInt8) : Int × Int := (nmb (Lib.cut t [47]).1, if (Lib.cut t [47]).2.2 = true then nmb (Lib.cut t [47]).2.1 else 1)
def frP (t : List UInt8) : Option (Int × Int) := if t ≠ [] ∧ (if fOk (frO t).1 (frO t).2 = true then frT (frO t).1 (frO t).2 else []) = t then some (frO t) else none
theorem frO_T {p q : Int} (h : fOk p q = true) : frO (frT p q) = (p, q) := by
  have h1 := fOk_iff.1 h
  unfold frT
  by_cases hq : q = 1
  · rw [if_pos hq]
    unfold frO
    rw [cut_0 (sgT_no h (by decide))]
    simp only
    rw [nmb_sgT (by omega) (by omega), hq]; rfl
  · rw [if_neg hq, List.append_assoc, List.singleton_append]
    unfold frO
    rw [cut_1 (sgT_no h (by decide))]
    simp only
    have e : nmb (dcl q) = q := by
      have := nmb_sgT (n := q) (by omega) (by omega)
      rwa [show sgT q = dcl q from if_neg (by omega)] at this
    rw [nmb_sgT (by omega) (by omega), e]; rfl
theorem frP_of {p q : Int} (h : fOk p q = true) : frP (frT p q) = some (p, q) := by
  unfold frP
  rw [frO_T h, if_pos ⟨frT_ne p q, by simp only; rw [if_pos h]⟩]
theorem frP_to {t : List UInt8} {p q : Int} (h : frP t = some (p, q)) : fOk p q = true ∧ frT p q = t := by
  unfold frP at h
  by_cases hc : t ≠ [] ∧ (if fOk (frO t).1 (frO t).2 = true then frT (frO t).1 (frO t).2 else []) = t
  · rw [if_pos hc] at h
    injection h with h
    rw [h] at hc
    simp only at hc
    by_cases hf : fOk p q = true
    · rw [if_pos hf] at hc; exact ⟨hf, hc.2⟩
    · rw [if_neg hf] at hc; exact absurd hc.2.symm hc.1
  · rw [if_neg hc] at h; cases h
theorem opt_eq {α β : Type} {f g : α → Option β} (h : ∀ t x, f t = some x ↔ g t = some x) (t : α) : f t = g t := by
  cases e : f t with
  | some x => exact ((h t x).1 e).symm
  | none =>
    cases e2 : g t with
    | none => rfl
    | some x => rw [(h t x).2 e2] at e; cases e
theorem fr_same (t : List UInt8) : frP t = frR t := opt_eq (fun t ⟨p, q⟩ => ⟨fun h => frR_iff.2 (frP_to h), fun h => by rw [← (frR_iff.1 h).2]; exact frP_of (frR_iff.1 h).1⟩) t
def spQ (t : List UInt8) : (Int × Int) × (Int × Int) := ((frP (Lib.cut t [46, 46]).1).getD (0, 0), (frP (Lib.cut t [46, 46]).2.1).getD (0, 0))
def spnP (t : List UInt8) : Option ((Int × Int) × (Int × Int)) := if ((frP (Lib.cut t [46, 46]).1).isSome = true ∧ (frP (Lib.cut t [46, 46]).2.1).isSome = true) ∧ (if spOk (spQ t).1.1 (spQ t).1.2 (spQ t).2.1 (spQ t).2.2 = true then spT (spQ t).1.1 (spQ t).1.2 (spQ t).2.1 (spQ t).2.2 else []) = t then some (spQ t) else none
theorem spP_of {p q p' q' : Int} (h : spOk p q p' q' = true) : spnP (spT p q p' q') = some ((p, q), (p', q')) := by
  obtain ⟨h1, h2, h3⟩ := spOk_iff.1 h
  have e : Lib.cut (spT p q p' q') [46, 46] = (frT p q, frT p' q', true) := by
    rw [show spT p q p' q' = frT p q ++ 46 :: 46 :: frT p' q' by simp [spT]]
    exact cut_2 (frT_no h1 (by decide))
  have eo : spQ (spT p q p' q') = ((p, q), (p', q')) := by
    unfold spQ
    rw [e]
    simp only
    rw [frP_of h1, frP_of h2]; rfl
  unfold spnP
  rw [eo, e]
  simp only
  rw [frP_of h1, frP_of h2, if_pos ⟨⟨rfl, rfl⟩, if_pos h⟩]
theorem spP_to {t : List UInt8} {p q p' q' : Int} (h : spnP t = some ((p, q), (p', q'))) : spOk p q p' q' = true ∧ spT p q p' q' = t := by
  unfold spnP at h
  by_cases hc : ((frP (Lib.cut t [46, 46]).1).isSome = true ∧ (frP (Lib.cut t [46, 46]).2.1).isSome = true) ∧ (if spOk (spQ t).1.1 (spQ t).1.2 (spQ t).2.1 (spQ t).2.2 = true then spT (spQ t).1.1 (spQ t).1.2 (spQ t).2.1 (spQ t).2.2 else []) = t
  · rw [if_pos hc] at h
    injection h with h
    rw [h] at hc
    simp only at hc
    by_cases hf : spOk p q p' q' = true
    · rw [if_pos hf] at hc; exact ⟨hf, hc.2⟩
    · rw [if_neg hf] at hc
      obtain ⟨⟨g1, g2⟩, g3⟩ := hc
      rw [← g3] at g1
      rw [show (Lib.cut [] [46, 46]).1 = [] from rfl, show frP [] = none from if_neg fun hh => hh.1 rfl] at g1
      cases g1
  · rw [if_neg hc] at h; cases h
theorem sp_same (t : List UInt8) : spnP t = spnR t := opt_eq (fun t ⟨⟨p, q⟩, p', q'⟩ => ⟨fun h => spnR_iff.2 (spP_to h), fun h => by rw [← (spnR_iff.1 h).2]; exact spP_of (spnR_iff.1 h).1⟩) t
end Go.Proofs.YtamachahlhlhlaaDoor.Eng
set_option linter.unusedVariables false
set_option linter.unusedSimpArgs false
namespace Go.Proofs.YtamachahlhlhlaaDoor.Eng
open Go Go.RowKit
set_option maxRecDepth 100000
def sh_lays145_ren : Go.Shelf.Ren := ⟨fun | 145 => 48 | 220 => 72 | 219 => 80 | 217 => 96 | 225 => 97 | 224 => 98 | 267 => 99 | 266 => 111 | 314 => 112 | n => n, fun | 9 => 9 | 4 => 4 | 59 => 86 | 3 => 3 | 5 => 5 | 46 => 122 | 146 => 149 | 51 => 148 | n => n, fun | 1 => 0 | n => n⟩
theorem sh_lays145 : Go.Proofs.Lays.n145 Tryd.prog sh_lays145_ren := {
  mixed := by kernel_rfl
  f145 := Tryd.func48.trans (congrArg some (by kernel_rfl))
  f217 := Tryd.func96.trans (congrArg some (by kernel_rfl))
  f219 := Tryd.func80.trans (congrArg some (by kernel_rfl))
  f220 := Tryd.func72.trans (congrArg some (by kernel_rfl))
  f224 := Tryd.func98.trans (congrArg some (by kernel_rfl))
  f225 := Tryd.func97.trans (congrArg some (by kernel_rfl))
  f266 := Tryd.func111.trans (congrArg some (by kernel_rfl))
  f267 := Tryd.func99.trans (congrArg some (by kernel_rfl))
  f314 := Tryd.func112.trans (congrArg some (by kernel_rfl))
  t3 := Tryd.underlying3
  a3 := Tryd.isAgg3
  z3 := Tryd.sizeOf3
  v3 := Tryd.zeroValue3
  t4 := Tryd.underlying4
  a4 := Tryd.isAgg4
  z4 := Tryd.sizeOf4
  v4 := Tryd.zeroValue4
  t5 := Tryd.underlying5
  a5 := Tryd.isAgg5
  z5 := Tryd.sizeOf5
  v5 := Tryd.zeroValue5
  t9 := Tryd.underlying9
  a9 := Tryd.isAgg9
  z9 := Tryd.sizeOf9
  v9 := Tryd.zeroValue9
  t46 := Tryd.underlying122
  a46 := Tryd.isAgg122
  z46 := Tryd.sizeOf122
  v46 := Tryd.zeroValue122
  t51 := Tryd.underlying148
  a51 := Tryd.isAgg148
  z51 := Tryd.sizeOf148
  v51 := Tryd.zeroValue148
  t59 := Tryd.underlying86
  a59 := Tryd.isAgg86
  z59 := Tryd.sizeOf86
  v59 := Tryd.zeroValue86
  t146 := Tryd.underlying149
  a146 := Tryd.isAgg149
  z146 := Tryd.sizeOf149
  v146 := Tryd.zeroValue149
  g1 := by kernel_rfl }
open Go.RowKit Go.Lib in
/-- strings.Cut: "Cut slices s around the first instance of sep, returning the text before and after sep. The found result reports whether sep appears in s. If sep does not appear in s, cut returns s, "", false.": IT RETURNS 'Lib.cut s sep'; the world is as it was but for the count of draws. (LAID: no walk: one application.) -/
theorem sh_strings_Cut (s sep : ByteArray) (m : Int) (w : World) (hs : s.size < 4294967281) (hm : w.cell? ⟨0, 0, none⟩ = some (.int .i64 m)) :
    Calls Tryd.prog 48 #[.string s, .string sep] w fun e w' => e = .returned (.tuple #[.string ⟨(Lib.cut s.data.toList sep.data.toList).1.toArray⟩, .string ⟨(Lib.cut s.data.toList sep.data.toList).2.1.toArray⟩, .bool (Lib.cut s.data.toList sep.data.toList).2.2]) ∧ ∃ n, w' = w.drewN n := Any.strings_Cut sh_lays145 s sep m w hs hm
/-- A call of flat values that answers several flat values and leaves what was; what the world holds of the library's variables is told. -/
theorem Runs_tupR {f : FuncId} {H : Heap} {more vs : List Value} (hen : Enters Tryd.prog f) (hmore : ∀ {ι : Ren} {ys : List Value}, LRel ι more ys → ys = more) (hv : ∀ v ∈ vs, flatV v = true)
    (hcon : ∀ w, RdW w → Calls Tryd.prog f ⟨more⟩ w fun e w' => e = .returned (.tuple ⟨vs⟩) ∧ Below w.heap.size w w') :
    Runs Tryd.prog f more H (fun u G => u = .tuple ⟨vs⟩ ∧ G = H) := by
  refine ⟨hen, fun w0 ι w args' h2 h3 => ?_⟩
  have := hmore h3
  subst this
  refine (hcon w h2.rd).mono fun e w' ⟨he, hb⟩ => ?_
  refine ⟨_, _, _, ι, he, ⟨rfl, rfl⟩, .tuple _ _ rfl fun i v v' h1 h2 => ?_, h2.after hb, .refl _ _, OCs.refl _ _, Nat.le_refl _⟩
  rw [h1] at h2
  obtain rfl := Option.some.inj h2
  exact .flat (hv v (List.mem_of_getElem? h1))
theorem RunsS_tupR {f : FuncId} {args xs : List SV} {S : List SB} (hen : Enters Tryd.prog f) (ha : args.all flatS = true) (hv : xs.all flatS = true)
    (hcon : ∀ w, RdW w → Calls Tryd.prog f ⟨args.map toV⟩ w fun e w' => e = .returned (.tuple ⟨xs.map toV⟩) ∧ Below w.heap.size w w') : RunsS Tryd.prog f args S (.tup xs) S := by
  intro H ρ args' hD hd h
  have e := LDR.fun2 h (map_toV ha ρ)
  subst e
  have hfl := (map_toV ha ρ).flat ha
  have h1 := map_toV hv ρ
  have hvf : ∀ v ∈ xs.map toV, flatV v = true := fun v hm => List.all_eq_true.1 (h1.flat hv) v hm
  exact ⟨_, H, ρ, Runs_tupR hen (fun hl => (hl.flat_eq fun v hv => List.all_eq_true.1 hfl v hv)) hvf hcon, .tup _ _ h1.1 h1.2, .refl hD hd⟩
def s_cut : Spec := fun args S => match args, S with
  | [.str s, .str p], [] => ⟨s.length ≤ 1048576, .tup [.str (Lib.cut s p).1, .str (Lib.cut s p).2.1, .bool (Lib.cut s p).2.2], []⟩
  | _, _ => noSpec
theorem ok_Cut : SpecOk Tryd.prog 48 s_cut := by
  intro args S h; unfold s_cut at h ⊢; (split at h <;> first | exact False.elim h | skip)
  dsimp only at h ⊢
  rename_i s p
  refine RunsS_tupR ⟨Tryd.f48, rfl, rfl, rfl⟩ rfl rfl fun w hw => ?_
  obtain ⟨⟨m, hm⟩, _⟩ := hw
  refine (sh_strings_Cut ⟨⟨s⟩⟩ ⟨⟨p⟩⟩ m w (by show s.length < _; omega) hm).mono fun e w' ⟨he, n, hw⟩ => ⟨he, ?_⟩
  rw [hw]
  exact ⟨rfl, rfl, rfl, by simp [World.drewN], fun k hk => by simp [World.drewN]⟩
end Go.Proofs.YtamachahlhlhlaaDoor.Eng
set_option linter.unusedVariables false
set_option linter.unusedSimpArgs false
namespace Go.Proofs.YtamachahlhlhlaaDoor.Eng
open Go Go.RowKit
set_option maxRecDepth 100000
end Go.Proofs.YtamachahlhlhlaaDoor.Eng
set_option linter.unusedVariables false
set_option linter.unusedSimpArgs false
namespace Go.Proofs.YtamachahlhlhlaaDoor.Eng
open Go Go.RowKit
set_option maxRecDepth 100000
abbrev ShT : Type := Int × (Int × Int) × (Int × Int)
end Go.Proofs.YtamachahlhlhlaaDoor.Eng
set_option linter.unusedVariables false
set_option linter.unusedSimpArgs false
namespace Go.Proofs.YtamachahlhlhlaaDoor.Eng
open Go Go.RowKit
set_option maxRecDepth 100000
/-- Fractions that may fail. -/
abbrev FrT : Type := Int × Int
end Go.Proofs.YtamachahlhlhlaaDoor.Eng
set_option linter.unusedVariables false
set_option linter.unusedSimpArgs false
namespace Go.Proofs.YtamachahlhlhlaaDoor.Eng
open Go Go.RowKit
set_option maxRecDepth 100000
end Go.Proofs.YtamachahlhlhlaaDoor.Eng
set_option linter.unusedVariables false
set_option linter.unusedSimpArgs false
namespace Go.Proofs.YtamachahlhlhlaaDoor.Eng
open Go Go.RowKit
set_option maxRecDepth 100000
/-- Two fractions that may fail. -/
def z2 (o : Option (FrT × FrT)) : FrT × FrT := o.getD ((0, 0), (0, 0))
end Go.Proofs.YtamachahlhlhlaaDoor.Eng
set_option linter.unusedVariables false
set_option linter.unusedSimpArgs false
namespace Go.Proofs.YtamachahlhlhlaaDoor.Eng
open Go Go.RowKit
set_option maxRecDepth 100000
end Go.Proofs.YtamachahlhlhlaaDoor.Eng
set_option linter.unusedVariables false
set_option linter.unusedSimpArgs false
namespace Go.Proofs.YtamachahlhlhlaaDoor.Eng
open Go Go.RowKit
set_option maxRecDepth 100000
def s_eqSpan : Spec := fun args S => match args, S with
  | [.agg [.int .i64 p, .int .i64 q, .int .i64 r, .int .i64 s], .agg [.int .i64 p', .int .i64 q', .int .i64 r', .int .i64 s']], [] => ⟨True, .bool ((decide (p = p') && decide (q = q')) && (decide (r = r') && decide (s = s'))), []⟩
  | _, _ => noSpec
theorem ok_eqSpan : SpecOk Tryd.prog 34 s_eqSpan := by
  intro args S h; unfold s_eqSpan at h ⊢; (split at h <;> first | exact False.elim h | skip)
  dsimp only at h ⊢
  refine funW tabOk (E := [(33, s_eqFrac)]) ⟨ok_eqFrac, trivial⟩ [] (k := 0) (fn := Tryd.f34) rfl rfl rfl rfl rfl rfl ?_
  (repeat' ((try (conv => whnf)); first | (with_reducible first | refine And.intro ?_ ?_ | refine WX.of ?_) | exact zc | ((with_reducible refine VC.mk ?_); exact zw) | (with_reducible first | refine splitT ?_ | refine splitF ?_) | ((with_reducible refine splitM.mk (fun hsm => ?_) (fun hsm => ?_)) <;> (try exact zx)) | ((with_reducible refine splitB.mk (fun h => ?_) (fun h => ?_)) <;> (try simp only [zs, ne_eq] at h) <;> (try simp (disch := omega) only [w64] at h) <;> (try exact zx)) | (with_reducible intro hz; (try exact absurd hz (Nat.succ_ne_zero _)))))
  all_goals (refine ⟨?_⟩; simp_all)
end Go.Proofs.YtamachahlhlhlaaDoor.Eng
set_option linter.unusedVariables false
set_option linter.unusedSimpArgs false
namespace Go.Proofs.YtamachahlhlhlaaDoor.Eng
open Go Go.RowKit
set_option maxRecDepth 100000
end Go.Proofs.YtamachahlhlhlaaDoor.Eng
set_option linter.unusedVariables false
set_option linter.unusedSimpArgs false
namespace Go.Proofs.YtamachahlhlhlaaDoor.Eng
open Go Go.RowKit
set_option maxRecDepth 100000
end Go.Proofs.YtamachahlhlhlaaDoor.Eng
set_option linter.unusedVariables false
set_option linter.unusedSimpArgs false
namespace Go.Proofs.YtamachahlhlhlaaDoor.Eng
open Go Go.RowKit
set_option maxRecDepth 100000
end Go.Proofs.YtamachahlhlhlaaDoor.Eng
set_option linter.unusedVariables false
set_option linter.unusedSimpArgs false
namespace Go.Proofs.YtamachahlhlhlaaDoor.Eng
open Go Go.RowKit
set_option maxRecDepth 100000
end Go.Proofs.YtamachahlhlhlaaDoor.Eng
set_option linter.unusedVariables false
set_option linter.unusedSimpArgs false
namespace Go.Proofs.YtamachahlhlhlaaDoor.Eng
open Go Go.RowKit
set_option maxRecDepth 100000
/-- A report: the shot, both readings, the length, the span. -/
abbrev RpT : Type := ShT × FrT × FrT × FrT × FrT × FrT
def rp0 : RpT := ((0, (0, 0), (0, 0)), (0, 0), (0, 0), (0, 0), (0, 0), (0, 0))
end Go.Proofs.YtamachahlhlhlaaDoor.Eng
set_option linter.unusedVariables false
set_option linter.unusedSimpArgs false
namespace Go.Proofs.YtamachahlhlhlaaDoor.Eng
open Go Go.RowKit
set_option maxRecDepth 100000
end Go.Proofs.YtamachahlhlhlaaDoor.Eng
set_option linter.unusedVariables false
set_option linter.unusedSimpArgs false
namespace Go.Proofs.YtamachahlhlhlaaDoor.Eng
open Go Go.RowKit
set_option maxRecDepth 100000
end Go.Proofs.YtamachahlhlhlaaDoor.Eng
set_option linter.unusedVariables false
set_option linter.unusedSimpArgs false
namespace Go.Proofs.YtamachahlhlhlaaDoor.Eng
open Go Go.RowKit
set_option maxRecDepth 100000
def s_l04Fracs : Spec := fun args S => match args, S with
  | [.sl 0 s n x], [.arr (.prod (.int .i64) (.int .i64)) l 2 wr] => ⟨s + n ≤ l.length ∧ n ≤ 1048576, .bool (allF (seg l s n)), [.arr (.prod (.int .i64) (.int .i64)) l 2 wr]⟩
  | _, _ => noSpec
theorem ok_l04Fracs : SpecOk Tryd.prog 46 s_l04Fracs := by
  intro args S h; unfold s_l04Fracs at h ⊢; (split at h <;> first | exact False.elim h | skip)
  dsimp only at h ⊢
  rename_i s n x l wr
  obtain ⟨h1, h2⟩ := h
  have hL := seg_len h1
  refine funW tabOk (E := [(44, s_fOk)]) ⟨ok_l01Ok, trivial⟩ [] (k := 1) (fn := Tryd.f46) rfl rfl rfl rfl rfl rfl ?_
  (repeat' ((try (conv => whnf)); first | (with_reducible first | refine And.intro ?_ ?_ | refine WX.of ?_) | exact zc | ((with_reducible refine VC.mk ?_); exact zw) | (with_reducible first | refine splitT ?_ | refine splitF ?_) | ((with_reducible refine splitM.mk (fun hsm => ?_) (fun hsm => ?_)) <;> (try exact zx)) | ((with_reducible refine splitB.mk (fun h => ?_) (fun h => ?_)) <;> (try simp only [zs, ne_eq] at h) <;> (try simp (disch := omega) only [w64] at h) <;> (try exact zx)) | (with_reducible intro hz; (try exact absurd hz (Nat.succ_ne_zero _)))))
  refine loopW tabOk (E := [(44, s_fOk)]) ⟨ok_l01Ok, trivial⟩ [] (σ := Nat) (fun i => [(0, .sl 0 s n x), (3, .int .i64 i)]) (fun i => [.arr (.prod (.int .i64) (.int .i64)) l 2 wr]) (fun i => n - i) (fun i => i ≤ n ∧ ∀ (j : Nat) (a : Int × Int), j < i → (seg l s n)[j]? = some a → fOk a.1 a.2 = true) 0 ⟨Nat.zero_le _, fun j a hj => by omega⟩ ?_ ?_
  · (repeat' ((try (conv => whnf)); first | (with_reducible first | refine And.intro ?_ ?_ | refine WX.of ?_) | exact zc | ((with_reducible refine VC.mk ?_); exact zw) | (with_reducible first | refine splitT ?_ | refine splitF ?_) | ((with_reducible refine splitM.mk (fun hsm => ?_) (fun hsm => ?_)) <;> (try exact zx)) | ((with_reducible refine splitB.mk (fun h => ?_) (fun h => ?_)) <;> (try simp only [zs, ne_eq] at h) <;> (try simp (disch := omega) only [w64] at h) <;> (try exact zx)) | (with_reducible intro hz; (try exact absurd hz (Nat.succ_ne_zero _)))))
  · intro i ⟨hi, hp⟩
    by_cases hlt : i < n
    · obtain ⟨⟨p, q⟩, ha⟩ := get_some (l := seg l s n) (i := i) (by omega)
      (repeat' ((try (conv => whnf)); first | (with_reducible first | refine And.intro ?_ ?_ | refine WX.of ?_) | exact zc | ((with_reducible refine VC.mk ?_); exact zw) | with_reducible refine atL_i ha ?_ | (with_reducible first | refine splitT ?_ | refine splitF ?_) | ((with_reducible refine splitM.mk (fun hsm => ?_) (fun hsm => ?_)) <;> (try exact zx)) | ((with_reducible refine splitB.mk (fun h => ?_) (fun h => ?_)) <;> (try simp only [zs, ne_eq] at h) <;> (try simp (disch := omega) only [w64] at h) <;> (try exact zx)) | (with_reducible intro hz; (try exact absurd hz (Nat.succ_ne_zero _)))))
      · exact ⟨by rw [show allF (seg l s n) = false from all_no ha h]⟩
      · refine ⟨i + 1, by omega, ⟨hlt, upto_step ha h hp⟩, ?_⟩
        (repeat' ((try (conv => whnf)); first | (with_reducible first | refine And.intro ?_ ?_ | refine WX.of ?_) | exact zc | ((with_reducible refine VC.mk ?_); exact zw) | (with_reducible first | refine splitT ?_ | refine splitF ?_) | ((with_reducible refine splitM.mk (fun hsm => ?_) (fun hsm => ?_)) <;> (try exact zx)) | ((with_reducible refine splitB.mk (fun h => ?_) (fun h => ?_)) <;> (try simp only [zs, ne_eq] at h) <;> (try simp (disch := omega) only [w64] at h) <;> (try exact zx)) | (with_reducible intro hz; (try exact absurd hz (Nat.succ_ne_zero _)))))
    · (repeat' ((try (conv => whnf)); first | (with_reducible first | refine And.intro ?_ ?_ | refine WX.of ?_) | exact zc | ((with_reducible refine VC.mk ?_); exact zw) | (with_reducible first | refine splitT ?_ | refine splitF ?_) | ((with_reducible refine splitM.mk (fun hsm => ?_) (fun hsm => ?_)) <;> (try exact zx)) | ((with_reducible refine splitB.mk (fun h => ?_) (fun h => ?_)) <;> (try simp only [zs, ne_eq] at h) <;> (try simp (disch := omega) only [w64] at h) <;> (try exact zx)) | (with_reducible intro hz; (try exact absurd hz (Nat.succ_ne_zero _)))))
      exact ⟨by rw [show allF (seg l s n) = true from all_yes (n := i) (by omega) hp]⟩
/-- The span inside a report. -/
def s_l01SpanR : Spec := fun args S => match args, S with
  | [.ptr 0 0 11], [.arr (.prod (.prod (.int .i64) (.prod (.prod (.int .i64) (.int .i64)) (.prod (.int .i64) (.int .i64)))) (.prod (.prod (.int .i64) (.int .i64)) (.prod (.prod (.int .i64) (.int .i64)) (.prod (.prod (.int .i64) (.int .i64)) (.prod (.prod (.int .i64) (.int .i64)) (.prod (.int .i64) (.int .i64))))))) [((i, (wp, wq), sp, sq), (fp, fq), (kp, kq), (lp, lq), (ap, aq), zp, zq)] 0 true] => ⟨True, .bool (spOk ap aq zp zq), [.arr (.prod (.prod (.int .i64) (.prod (.prod (.int .i64) (.int .i64)) (.prod (.int .i64) (.int .i64)))) (.prod (.prod (.int .i64) (.int .i64)) (.prod (.prod (.int .i64) (.int .i64)) (.prod (.prod (.int .i64) (.int .i64)) (.prod (.prod (.int .i64) (.int .i64)) (.prod (.int .i64) (.int .i64))))))) [((i, (wp, wq), sp, sq), (fp, fq), (kp, kq), (lp, lq), (ap, aq), zp, zq)] 0 true]⟩
  | _, _ => noSpec
theorem ok_l01SpanR : SpecOk Tryd.prog 45 s_l01SpanR := by
  intro args S h; unfold s_l01SpanR at h ⊢; (split at h <;> first | exact False.elim h | skip)
  dsimp only at h ⊢
  rename_i i wp wq sp sq fp fq kp kq lp lq ap aq zp zq
  have hc := cmpF_le (p := ap) (q := aq) (p' := zp) (q' := zq)
  refine funW tabOk (E := [(44, s_fOk), (70, s_cmp)]) ⟨ok_l01Ok, ok_l01Cmp, trivial⟩ [] (k := 1) (fn := Tryd.f45) rfl rfl rfl rfl rfl rfl ?_
  (repeat' ((try (conv => whnf)); first | (with_reducible first | refine And.intro ?_ ?_ | refine WX.of ?_) | exact zc | ((with_reducible refine VC.mk ?_); exact zw) | (with_reducible first | refine splitT ?_ | refine splitF ?_) | ((with_reducible refine splitM.mk (fun hsm => ?_) (fun hsm => ?_)) <;> (try exact zx)) | ((with_reducible refine splitB.mk (fun h => ?_) (fun h => ?_)) <;> (try simp only [zs, ne_eq] at h) <;> (try simp (disch := omega) only [w64] at h) <;> (try exact zx)) | (with_reducible intro hz; (try exact absurd hz (Nat.succ_ne_zero _)))))
  all_goals try dsimp only at *
  all_goals first
    | exact ⟨⟨smF_ok ‹fOk ap aq = true›, smF_ok ‹fOk zp zq = true›⟩⟩
    | (refine ⟨congrArg SV.bool ?_⟩; simp [spOk, hc, *]; done)
def rpL (wp wq sp sq fp fq kp kq lp lq : Int) : List (Int × Int) := [(wp, wq), (sp, sq), (fp, fq), (kp, kq), (lp, lq)]
def rpB (i wp wq sp sq fp fq kp kq lp lq ap aq zp zq : Int) : Bool := (decide (0 ≤ i ∧ i ≤ 9) && allF (rpL wp wq sp sq fp fq kp kq lp lq)) && spOk ap aq zp zq
def rpT (i wp wq sp sq fp fq kp kq lp lq ap aq zp zq : Int) : List UInt8 := ((((((((((((dcl i ++ [32]) ++ frT wp wq) ++ [32]) ++ frT sp sq) ++ [32]) ++ frT fp fq) ++ [32]) ++ frT kp kq) ++ [32]) ++ frT lp lq) ++ [32]) ++ spT ap aq zp zq)
structure RpOk (i wp wq sp sq fp fq kp kq lp lq ap aq zp zq : Int) : Prop where
  i : 0 ≤ i ∧ i ≤ 9
  w : fOk wp wq = true
  s : fOk sp sq = true
  f : fOk fp fq = true
  k : fOk kp kq = true
  l : fOk lp lq = true
  o : spOk ap aq zp zq = true
  all : allF (rpL wp wq sp sq fp fq kp kq lp lq) = true
theorem rpOk {i wp wq sp sq fp fq kp kq lp lq ap aq zp zq : Int} (h : rpB i wp wq sp sq fp fq kp kq lp lq ap aq zp zq = true) : RpOk i wp wq sp sq fp fq kp kq lp lq ap aq zp zq := by
  unfold rpB at h
  simp only [Bool.and_eq_true, decide_eq_true_eq] at h
  obtain ⟨⟨h1, h2⟩, h3⟩ := h
  have h4 := h2
  simp only [allF, rpL, List.all_cons, List.all_nil, Bool.and_true, Bool.and_eq_true] at h4
  exact ⟨h1, h4.1, h4.2.1, h4.2.2.1, h4.2.2.2.1, h4.2.2.2.2, h3, h2⟩
theorem rpB_o {i wp wq sp sq fp fq kp kq lp lq ap aq zp zq : Int} (h : 0 ≤ i ∧ i ≤ 9) (h2 : allF (rpL wp wq sp sq fp fq kp kq lp lq) = true) : rpB i wp wq sp sq fp fq kp kq lp lq ap aq zp zq = spOk ap aq zp zq := by
  unfold rpB; rw [decide_eq_true h, h2]; rfl
theorem rpB_n {i wp wq sp sq fp fq kp kq lp lq ap aq zp zq : Int} (h : ¬ (0 ≤ i ∧ i ≤ 9)) : rpB i wp wq sp sq fp fq kp kq lp lq ap aq zp zq = false := by
  unfold rpB; rw [decide_eq_false h]; rfl
theorem rpB_x {i wp wq sp sq fp fq kp kq lp lq ap aq zp zq : Int} (h : 0 ≤ i ∧ i ≤ 9) (h2 : allF (seg [(wp, wq), (sp, sq), (fp, fq), (kp, kq), (lp, lq)] 0 5) = true) (h3 : spOk ap aq zp zq = true) : rpB i wp wq sp sq fp fq kp kq lp lq ap aq zp zq = true := (rpB_o h h2).trans h3
def s_rpTold : Spec := fun args S => match args, S with
  | [.ptr 0 0 0], [.arr (.prod (.prod (.int .i64) (.prod (.prod (.int .i64) (.int .i64)) (.prod (.int .i64) (.int .i64)))) (.prod (.prod (.int .i64) (.int .i64)) (.prod (.prod (.int .i64) (.int .i64)) (.prod (.prod (.int .i64) (.int .i64)) (.prod (.prod (.int .i64) (.int .i64)) (.prod (.int .i64) (.int .i64))))))) [((i, (wp, wq), sp, sq), (fp, fq), (kp, kq), (lp, lq), (ap, aq), zp, zq)] 0 true] => ⟨True, .bool (rpB i wp wq sp sq fp fq kp kq lp lq ap aq zp zq), [.arr (.prod (.prod (.int .i64) (.prod (.prod (.int .i64) (.int .i64)) (.prod (.int .i64) (.int .i64)))) (.prod (.prod (.int .i64) (.int .i64)) (.prod (.prod (.int .i64) (.int .i64)) (.prod (.prod (.int .i64) (.int .i64)) (.prod (.prod (.int .i64) (.int .i64)) (.prod (.int .i64) (.int .i64))))))) [((i, (wp, wq), sp, sq), (fp, fq), (kp, kq), (lp, lq), (ap, aq), zp, zq)] 0 true]⟩
  | _, _ => noSpec
theorem ok_l07Told : SpecOk Tryd.prog 28 s_rpTold := by
  intro args S h; unfold s_rpTold at h ⊢; (split at h <;> first | exact False.elim h | skip)
  dsimp only at h ⊢
  rename_i i wp wq sp sq fp fq kp kq lp lq ap aq zp zq
  refine funW tabOk (E := [(16, s_within), (46, s_l04Fracs), (45, s_l01SpanR)]) ⟨ok_l00In, ok_l04Fracs, ok_l01SpanR, trivial⟩ [] (k := 1) (fn := Tryd.f28) rfl rfl rfl rfl rfl rfl ?_
  (repeat' ((try (conv => whnf)); first | (with_reducible first | refine And.intro ?_ ?_ | refine WX.of ?_) | exact zc | ((with_reducible refine VC.mk ?_); exact zw) | ((with_reducible refine VC.mk ?_); exact ⟨Nat.le_refl 5, by decide⟩) | (with_reducible first | refine splitT ?_ | refine splitF ?_) | ((with_reducible refine splitM.mk (fun hsm => ?_) (fun hsm => ?_)) <;> (try exact zx)) | ((with_reducible refine splitB.mk (fun h => ?_) (fun h => ?_)) <;> (try simp only [zs, ne_eq] at h) <;> (try simp (disch := omega) only [w64] at h) <;> (try exact zx)) | (with_reducible intro hz; (try exact absurd hz (Nat.succ_ne_zero _)))))
  · rename_i h9
    have h : allF (rpL wp wq sp sq fp fq kp kq lp lq) = true := h
    exact ⟨congrArg SV.bool (rpB_o h9 h).symm⟩
  · have h : allF (rpL wp wq sp sq fp fq kp kq lp lq) = false := h
    exact ⟨congrArg SV.bool (by unfold rpB; rw [h, Bool.and_false, Bool.false_and])⟩
  · exact ⟨congrArg SV.bool (rpB_n h).symm⟩
def s_rpx : Spec := fun args S => match args, S with
  | [.agg [.int .i64 i, .int .i64 wp, .int .i64 wq, .int .i64 sp, .int .i64 sq, .int .i64 fp, .int .i64 fq, .int .i64 kp, .int .i64 kq, .int .i64 lp, .int .i64 lq, .int .i64 ap, .int .i64 aq, .int .i64 zp, .int .i64 zq]], [] => ⟨True, .str (if rpB i wp wq sp sq fp fq kp kq lp lq ap aq zp zq = true then rpT i wp wq sp sq fp fq kp kq lp lq ap aq zp zq else []), []⟩
  | _, _ => noSpec
theorem rpT_j {i wp wq sp sq fp fq kp kq lp lq ap aq zp zq : Int} (h : 0 ≤ i) : rpT i wp wq sp sq fp fq kp kq lp lq ap aq zp zq = (((sgT i ++ [32]) ++ frsT (rpL wp wq sp sq fp fq kp kq lp lq)) ++ [32]) ++ spT ap aq zp zq := by
  rw [show sgT i = dcl i from if_neg (by omega)]
  simp [rpT, rpL, frsT, Lib.join, List.intercalate, List.intersperse]
set_option maxHeartbeats 3200000 in
theorem ok_ReportTextI : SpecOk Tryd.prog 31 s_rpx := by
  intro args S h; unfold s_rpx at h ⊢; (split at h <;> first | exact False.elim h | skip)
  dsimp only at h ⊢
  rename_i i wp wq sp sq fp fq kp kq lp lq ap aq zp zq
  refine funW tabOk (E := [(21, s_within), (50, s_allF), (51, s_vSpan), (42, s_sgT), (52, s_frsT), (49, s_spTI)]) ⟨ok_within, ok_areValid, ok_ValidSpan, ok_decI, ok_fracTexts, ok_SpanTextI, trivial⟩ [(3, [(2, 1), (22, 0), (22, 1)])] (k := 0) (fn := Tryd.f31) rfl rfl rfl rfl rfl rfl ?_
  by_cases hB : rpB i wp wq sp sq fp fq kp kq lp lq ap aq zp zq = true
  · rw [if_pos hB]
    have hk := rpOk hB
    have l0 := sgT_20 i
    have l2 := frsT_len (L := rpL wp wq sp sq fp fq kp kq lp lq)
    have l6 := spT_len ap aq zp zq
    have ho := hk.o
    have hin := hk.i
    have hal : allF (seg [(wp, wq), (sp, sq), (fp, fq), (kp, kq), (lp, lq)] 0 5) = true := hk.all
    have l7 : (rpL wp wq sp sq fp fq kp kq lp lq).length = 5 := rfl
    have z1 : (sgT i).length + 1 ≤ 9223372036854775807 := by omega
    have z2 : (sgT i ++ [32]).length + (frsT (rpL wp wq sp sq fp fq kp kq lp lq)).length ≤ 9223372036854775807 := by simp; omega
    have z3 : ((sgT i ++ [32]) ++ frsT (rpL wp wq sp sq fp fq kp kq lp lq)).length + 1 ≤ 9223372036854775807 := by simp; omega
    have z4 : (((sgT i ++ [32]) ++ frsT (rpL wp wq sp sq fp fq kp kq lp lq)) ++ [32]).length + (if spOk ap aq zp zq = true then spT ap aq zp zq else []).length ≤ 9223372036854775807 := by rw [if_pos ho]; simp; omega
    have z5 : SV.str ((((sgT i ++ [32]) ++ frsT (rpL wp wq sp sq fp fq kp kq lp lq)) ++ [32]) ++ (if spOk ap aq zp zq = true then spT ap aq zp zq else [])) = SV.str (rpT i wp wq sp sq fp fq kp kq lp lq ap aq zp zq) := by rw [if_pos ho, rpT_j hin.1]
    (repeat' ((try (conv => whnf)); first | (with_reducible first | refine And.intro ?_ ?_ | refine WX.of ?_) | exact zc | ((with_reducible refine VC.mk ?_); exact zw) | ((with_reducible refine VC.mk ?_); exact ⟨Nat.le_refl 5, by decide⟩) | ((with_reducible refine VC.mk ?_); exact ⟨⟨Nat.le_refl 5, by decide, by decide⟩, hal⟩) | ((with_reducible refine splitT_of ?_ ?_); (focus (simp only [ho, hal, Bool.not_true, Bool.not_true, Bool.not_false, decide_true, decide_false]; done))) | ((with_reducible refine splitF_of ?_ ?_); (focus (simp only [ho, hal, Bool.not_true, Bool.not_true, Bool.not_false, decide_true, decide_false]; done))) | (with_reducible first | refine splitT ?_ | refine splitF ?_) | ((with_reducible refine splitM.mk (fun hsm => ?_) (fun hsm => ?_)) <;> (try exact zx)) | ((with_reducible refine splitB.mk (fun h => ?_) (fun h => ?_)) <;> (try simp only [zs, ne_eq] at h) <;> (try simp (disch := omega) only [w64] at h) <;> (try exact zx)) | (with_reducible intro hz; (try exact absurd hz (Nat.succ_ne_zero _)))))
    all_goals first
      | exact ⟨z1⟩
      | exact ⟨z2⟩
      | exact ⟨z3⟩
      | exact ⟨z4⟩
      | exact ⟨z5⟩
  · rw [if_neg hB]
    have hB : rpB i wp wq sp sq fp fq kp kq lp lq ap aq zp zq = false := by simpa using hB
    (repeat' ((try (conv => whnf)); first | (with_reducible first | refine And.intro ?_ ?_ | refine WX.of ?_) | exact zc | ((with_reducible refine VC.mk ?_); exact zw) | ((with_reducible refine VC.mk ?_); exact ⟨Nat.le_refl 5, by decide⟩) | (with_reducible first | refine splitT ?_ | refine splitF ?_) | ((with_reducible refine splitM.mk (fun hsm => ?_) (fun hsm => ?_)) <;> (try exact zx)) | ((with_reducible refine splitB.mk (fun h => ?_) (fun h => ?_)) <;> (try simp only [zs, ne_eq] at h) <;> (try simp (disch := omega) only [w64] at h) <;> (try exact zx)) | (with_reducible intro hz; (try exact absurd hz (Nat.succ_ne_zero _)))))
    all_goals exact absurd (rpB_x ‹0 ≤ i ∧ i ≤ 9› ‹allF (seg [(wp, wq), (sp, sq), (fp, fq), (kp, kq), (lp, lq)] 0 5) = true› ‹spOk ap aq zp zq = true›) (by rw [hB]; decide)
end Go.Proofs.YtamachahlhlhlaaDoor.Eng
set_option linter.unusedVariables false
set_option linter.unusedSimpArgs false
namespace Go.Proofs.YtamachahlhlhlaaDoor.Eng
open Go Go.RowKit
set_option maxRecDepth 100000
def rpBv (v : RpT) : Bool := rpB v.1.1 v.1.2.1.1 v.1.2.1.2 v.1.2.2.1 v.1.2.2.2 v.2.1.1 v.2.1.2 v.2.2.1.1 v.2.2.1.2 v.2.2.2.1.1 v.2.2.2.1.2 v.2.2.2.2.1.1 v.2.2.2.2.1.2 v.2.2.2.2.2.1 v.2.2.2.2.2.2
def rpTv (v : RpT) : List UInt8 := rpT v.1.1 v.1.2.1.1 v.1.2.1.2 v.1.2.2.1 v.1.2.2.2 v.2.1.1 v.2.1.2 v.2.2.1.1 v.2.2.1.2 v.2.2.2.1.1 v.2.2.2.1.2 v.2.2.2.2.1.1 v.2.2.2.2.1.2 v.2.2.2.2.2.1 v.2.2.2.2.2.2
/-- The words, joined by blanks. -/
theorem spl7 {c : UInt8} {t a0 a1 a2 a3 a4 a5 a6 : List UInt8} (h : splL c t = [a0, a1, a2, a3, a4, a5, a6]) : t = a0 ++ c :: (a1 ++ c :: (a2 ++ c :: (a3 ++ c :: (a4 ++ c :: (a5 ++ c :: a6))))) := by
  rcases (splL_cons h).2 with ⟨h', _⟩ | ⟨t1, e1, h1⟩
  · cases h'
  rcases (splL_cons h1).2 with ⟨h', _⟩ | ⟨t2, e2, h2⟩
  · cases h'
  rcases (splL_cons h2).2 with ⟨h', _⟩ | ⟨t3, e3, h3⟩
  · cases h'
  rcases (splL_cons h3).2 with ⟨h', _⟩ | ⟨t4, e4, h4⟩
  · cases h'
  rcases (splL_cons h4).2 with ⟨h', _⟩ | ⟨t5, e5, h5⟩
  · cases h'
  rcases (splL_cons h5).2 with ⟨h', _⟩ | ⟨t6, e6, h6⟩
  · cases h'
  rcases (splL_cons h6).2 with ⟨_, e7⟩ | ⟨t7, _, h7⟩
  · rw [e1, e2, e3, e4, e5, e6, e7]
  · exact absurd h7 (splL_ne _ _)
/-- What the words say: numbers and fractions read by n, f, s; where one does not read, its default. -/
def rpW (n : List UInt8 → Int) (f : List UInt8 → Int × Int) (s : List UInt8 → (Int × Int) × (Int × Int)) (W : List (List UInt8)) : RpT :=
  ((n (wR W 0), f (wR W 1), f (wR W 2)), f (wR W 3), f (wR W 4), f (wR W 5), (s (wR W 6)).1, (s (wR W 6)).2)
def numJ (t : List UInt8) : Int := (numR t).getD 0
def rpG (W : List (List UInt8)) : Bool := (numR (wR W 0)).isSome && (frR (wR W 1)).isSome && (frR (wR W 2)).isSome && (frR (wR W 3)).isSome && (frR (wR W 4)).isSome && (frR (wR W 5)).isSome
def rpJ (t : List UInt8) : RpT := rpW numJ frJ spnJ (splL 32 t)
def rpR (t : List UInt8) : Option RpT := if ((splL 32 t).length = 7 ∧ rpG (splL 32 t) = true) ∧ (spnR (wR (splL 32 t) 6)).isSome = true ∧ rpBv (rpJ t) = true then some (rpJ t) else none
def frD (t : List UInt8) : Int × Int := (frR t).getD (0, 0)
def spnD (t : List UInt8) : (Int × Int) × (Int × Int) := (spnR t).getD ((0, 0), (0, 0))
def rpO (t : List UInt8) : RpT := rpW nmb frD spnD (splL 32 t)
def rpP (t : List UInt8) : Option RpT := if (splL 32 t).length = 7 ∧ (if rpBv (rpO t) = true then rpTv (rpO t) else []) = t then some (rpO t) else none
theorem len7 {α : Type} {l : List α} (h : l.length = 7) : ∃ a0 a1 a2 a3 a4 a5 a6, l = [a0, a1, a2, a3, a4, a5, a6] := by
  match l, h with
  | [a0, a1, a2, a3, a4, a5, a6], _ => exact ⟨_, _, _, _, _, _, _, rfl⟩
theorem num_some {t : List UInt8} (h : (numR t).isSome = true) : dcl (numJ t) = t := by
  cases e : numR t with
  | none => rw [e] at h; cases h
  | some n => unfold numJ; rw [e]; exact (numR_to e).1
theorem fr_some {t : List UInt8} (h : (frR t).isSome = true) : frT (frJ t).1 (frJ t).2 = t := by
  cases e : frR t with
  | none => rw [e] at h; cases h
  | some n => rw [frJ_eq e]; exact (fr_to (p := n.1) (q := n.2) e).2
theorem sp_some {t : List UInt8} (h : (spnR t).isSome = true) : spT (spnJ t).1.1 (spnJ t).1.2 (spnJ t).2.1 (spnJ t).2.2 = t := by
  cases e : spnR t with
  | none => rw [e] at h; cases h
  | some n => rw [spJ_eq e]; exact (sp_to (p := n.1.1) (q := n.1.2) (p' := n.2.1) (q' := n.2.2) e).2
theorem rp_to {t : List UInt8} {v : RpT} (h : rpR t = some v) : rpBv v = true ∧ rpTv v = t := by
  unfold rpR at h
  split at h
  · rename_i hc
    obtain ⟨⟨h1, h2⟩, h3, h4⟩ := hc
    injection h with h
    subst h
    refine ⟨h4, ?_⟩
    obtain ⟨a0, a1, a2, a3, a4, a5, a6, hW⟩ := len7 h1
    unfold rpJ
    rw [hW] at h2 h3 ⊢
    have ht := spl7 hW
    simp only [rpG, wR, List.getElem?_cons_zero, List.getElem?_cons_succ, Option.getD_some, Bool.and_eq_true] at h2 h3
    obtain ⟨⟨⟨⟨⟨b0, b1⟩, b2⟩, b3⟩, b4⟩, b5⟩ := h2
    simp only [rpTv, rpT, rpW, wR, List.getElem?_cons_zero, List.getElem?_cons_succ, Option.getD_some]
    rw [num_some b0, fr_some b1, fr_some b2, fr_some b3, fr_some b4, fr_some b5, sp_some h3, ht]
    simp
  · cases h
theorem rpT_words {i wp wq sp sq fp fq kp kq lp lq ap aq zp zq : Int} (h : rpB i wp wq sp sq fp fq kp kq lp lq ap aq zp zq = true) : splL 32 (rpT i wp wq sp sq fp fq kp kq lp lq ap aq zp zq) = [dcl i, frT wp wq, frT sp sq, frT fp fq, frT kp kq, frT lp lq, spT ap aq zp zq] := by
  have hk := rpOk h
  obtain ⟨o1, o2, o3⟩ := spOk_iff.1 hk.o
  have e : rpT i wp wq sp sq fp fq kp kq lp lq ap aq zp zq = dcl i ++ 32 :: (frT wp wq ++ 32 :: (frT sp sq ++ 32 :: (frT fp fq ++ 32 :: (frT kp kq ++ 32 :: (frT lp lq ++ 32 :: spT ap aq zp zq))))) := by simp [rpT]
  have n0 : (32 : UInt8) ∉ dcl i := fun hm => by
    have := dcl_b hk.i.1 (by have := hk.i.2; omega) _ hm
    unfold dgB at this; exact absurd this (by decide)
  have n6 : (32 : UInt8) ∉ spT ap aq zp zq := by
    unfold spT
    have m1 := frT_no o1 (c := 32) (by decide)
    have m2 := frT_no o2 (c := 32) (by decide)
    simp [m1, m2]
  rw [e, splL_app n0, splL_app (frT_no hk.w (by decide)), splL_app (frT_no hk.s (by decide)), splL_app (frT_no hk.f (by decide)), splL_app (frT_no hk.k (by decide)), splL_app (frT_no hk.l (by decide)), splL_no n6]
theorem numJ_dcl {n : Int} (h0 : 0 ≤ n) (h1 : n < 10000000000) : numJ (dcl n) = n := by unfold numJ; rw [numR_dcl h0 h1]; rfl
theorem nmb_dcl {n : Int} (h0 : 0 ≤ n) (h1 : n ≤ 9223372036854775807) : nmb (dcl n) = n := by
  have := nmb_sgT (n := n) (by omega) h1
  rwa [show sgT n = dcl n from if_neg (by omega)] at this
theorem rp_of {v : RpT} (h : rpBv v = true) : rpR (rpTv v) = some v ∧ rpP (rpTv v) = some v := by
  obtain ⟨⟨i, ⟨wp, wq⟩, sp, sq⟩, ⟨fp, fq⟩, ⟨kp, kq⟩, ⟨lp, lq⟩, ⟨ap, aq⟩, zp, zq⟩ := v
  have h : rpB i wp wq sp sq fp fq kp kq lp lq ap aq zp zq = true := h
  have hk := rpOk h
  have hW := rpT_words h
  have hi := hk.i
  have eJ : rpJ (rpT i wp wq sp sq fp fq kp kq lp lq ap aq zp zq) = ((i, (wp, wq), sp, sq), (fp, fq), (kp, kq), (lp, lq), (ap, aq), zp, zq) := by
    unfold rpJ
    rw [hW]
    simp only [rpW, wR, List.getElem?_cons_zero, List.getElem?_cons_succ, Option.getD_some]
    rw [numJ_dcl hi.1 (by omega), frJ_eq (fr_of hk.w), frJ_eq (fr_of hk.s), frJ_eq (fr_of hk.f), frJ_eq (fr_of hk.k), frJ_eq (fr_of hk.l), spJ_eq (sp_of hk.o)]
  have eO : rpO (rpT i wp wq sp sq fp fq kp kq lp lq ap aq zp zq) = ((i, (wp, wq), sp, sq), (fp, fq), (kp, kq), (lp, lq), (ap, aq), zp, zq) := by
    unfold rpO
    rw [hW]
    simp only [rpW, wR, List.getElem?_cons_zero, List.getElem?_cons_succ, Option.getD_some, frD, spnD]
    rw [nmb_dcl hi.1 (by omega), fr_of hk.w, fr_of hk.s, fr_of hk.f, fr_of hk.k, fr_of hk.l, sp_of hk.o]
    rfl
  constructor
  · show rpR (rpT i wp wq sp sq fp fq kp kq lp lq ap aq zp zq) = _
    unfold rpR
    rw [eJ, hW, if_pos]
    refine ⟨⟨rfl, ?_⟩, ?_, h⟩
    · simp only [rpG, wR, List.getElem?_cons_zero, List.getElem?_cons_succ, Option.getD_some]
      rw [numR_dcl hi.1 (by omega), fr_of hk.w, fr_of hk.s, fr_of hk.f, fr_of hk.k, fr_of hk.l]
      rfl
    · simp only [wR, List.getElem?_cons_zero, List.getElem?_cons_succ, Option.getD_some]
      rw [sp_of hk.o]
      rfl
  · show rpP (rpT i wp wq sp sq fp fq kp kq lp lq ap aq zp zq) = _
    unfold rpP
    rw [eO, hW, if_pos]
    refine ⟨rfl, ?_⟩
    rw [if_pos (show rpBv ((i, (wp, wq), sp, sq), (fp, fq), (kp, kq), (lp, lq), (ap, aq), zp, zq) = true from h)]
    rfl
theorem rpP_to {t : List UInt8} {v : RpT} (h : rpP t = some v) : rpBv v = true ∧ rpTv v = t := by
  unfold rpP at h
  by_cases hc : (splL 32 t).length = 7 ∧ (if rpBv (rpO t) = true then rpTv (rpO t) else []) = t
  · rw [if_pos hc] at h
    injection h with h
    rw [h] at hc
    obtain ⟨h1, h2⟩ := hc
    by_cases hf : rpBv v = true
    · rw [if_pos hf] at h2; exact ⟨hf, h2⟩
    · rw [if_neg hf] at h2
      rw [← h2] at h1
      exact absurd h1 (by decide)
  · rw [if_neg hc] at h; cases h
theorem rp_same (t : List UInt8) : rpP t = rpR t := opt_eq (fun t v => ⟨fun h => by rw [← (rpP_to h).2]; exact (rp_of (rpP_to h).1).1, fun h => by rw [← (rp_to h).2]; exact (rp_of (rp_to h).1).2⟩) t
end Go.Proofs.YtamachahlhlhlaaDoor.Eng
set_option linter.unusedVariables false
set_option linter.unusedSimpArgs false
namespace Go.Proofs.YtamachahlhlhlaaDoor.Eng
open Go Go.RowKit
set_option maxRecDepth 100000
def okE (b : Bool) : Int := if b = true then 0 else 5
def s_rdFI : Spec := fun args S => match args, S with
  | [.str t], [] => ⟨t.length ≤ 1048576, .tup [.agg [.int .i64 (frD t).1, .int .i64 (frD t).2], .int .i64 (okE (frR t).isSome)], []⟩
  | _, _ => noSpec
theorem ok_ReadFracI : SpecOk Tryd.prog 47 s_rdFI := by
  intro args S h; unfold s_rdFI at h ⊢; (split at h <;> first | exact False.elim h | skip)
  dsimp only at h ⊢
  rename_i t
  have hl := cut_len t [47]
  have e := fr_same t
  unfold frD
  rw [← e]
  by_cases h0 : t = []
  · have hn : frP t = none := if_neg fun hh => hh.1 h0
    rw [hn]
    have hk : decide (t = []) = true := decide_eq_true h0
    by_cases hb : (Lib.cut t [47]).2.2 = true
    · refine funW tabOk (E := [(48, s_cut), (22, s_nmb), (71, s_frTI)]) ⟨ok_Cut, ok_number, ok_FracTextI, trivial⟩ [] (k := 0) (fn := Tryd.f47) rfl rfl rfl rfl rfl rfl ?_
      (repeat' ((try (conv => whnf)); first | (with_reducible first | refine And.intro ?_ ?_ | refine WX.of ?_) | exact zc | ((with_reducible refine VC.mk ?_); exact zw) | ((with_reducible refine VC.mk ?_); exact h) | ((with_reducible refine VC.mk ?_); exact (Nat.le_trans hl.1 h)) | ((with_reducible refine VC.mk ?_); exact (Nat.le_trans hl.2 h)) | ((with_reducible refine splitT_of ?_ ?_); (focus (simp only [hb, hk, Bool.not_true, Bool.not_false, decide_true, decide_false]; done))) | ((with_reducible refine splitF_of ?_ ?_); (focus (simp only [hb, hk, Bool.not_true, Bool.not_false, decide_true, decide_false]; done))) | (with_reducible first | refine splitT ?_ | refine splitF ?_) | ((with_reducible refine splitM.mk (fun hsm => ?_) (fun hsm => ?_)) <;> (try exact zx)) | ((with_reducible refine splitB.mk (fun h => ?_) (fun h => ?_)) <;> (try simp only [zs, ne_eq] at h) <;> (try simp (disch := omega) only [w64] at h) <;> (try exact zx)) | (with_reducible intro hz; (try exact absurd hz (Nat.succ_ne_zero _)))))
    · have hb : (Lib.cut t [47]).2.2 = false := by simpa using hb
      refine funW tabOk (E := [(48, s_cut), (22, s_nmb), (71, s_frTI)]) ⟨ok_Cut, ok_number, ok_FracTextI, trivial⟩ [] (k := 0) (fn := Tryd.f47) rfl rfl rfl rfl rfl rfl ?_
      (repeat' ((try (conv => whnf)); first | (with_reducible first | refine And.intro ?_ ?_ | refine WX.of ?_) | exact zc | ((with_reducible refine VC.mk ?_); exact zw) | ((with_reducible refine VC.mk ?_); exact h) | ((with_reducible refine VC.mk ?_); exact (Nat.le_trans hl.1 h)) | ((with_reducible refine VC.mk ?_); exact (Nat.le_trans hl.2 h)) | ((with_reducible refine splitT_of ?_ ?_); (focus (simp only [hb, hk, Bool.not_true, Bool.not_false, decide_true, decide_false]; done))) | ((with_reducible refine splitF_of ?_ ?_); (focus (simp only [hb, hk, Bool.not_true, Bool.not_false, decide_true, decide_false]; done))) | (with_reducible first | refine splitT ?_ | refine splitF ?_) | ((with_reducible refine splitM.mk (fun hsm => ?_) (fun hsm => ?_)) <;> (try exact zx)) | ((with_reducible refine splitB.mk (fun h => ?_) (fun h => ?_)) <;> (try simp only [zs, ne_eq] at h) <;> (try simp (disch := omega) only [w64] at h) <;> (try exact zx)) | (with_reducible intro hz; (try exact absurd hz (Nat.succ_ne_zero _)))))
  · have hk : decide (t = []) = false := decide_eq_false h0
    by_cases hT : (if fOk (frO t).1 (frO t).2 = true then frT (frO t).1 (frO t).2 else []) = t
    · have hs : frP t = some (frO t) := if_pos ⟨h0, hT⟩
      rw [hs]
      by_cases hb : (Lib.cut t [47]).2.2 = true
      · have ho : frO t = (nmb (Lib.cut t [47]).1, nmb (Lib.cut t [47]).2.1) := by unfold frO; rw [if_pos hb]
        rw [ho] at hT ⊢
        refine funW tabOk (E := [(48, s_cut), (22, s_nmb), (71, s_frTI)]) ⟨ok_Cut, ok_number, ok_FracTextI, trivial⟩ [] (k := 0) (fn := Tryd.f47) rfl rfl rfl rfl rfl rfl ?_
        (repeat' ((try (conv => whnf)); first | (with_reducible first | refine And.intro ?_ ?_ | refine WX.of ?_) | exact zc | ((with_reducible refine VC.mk ?_); exact zw) | ((with_reducible refine VC.mk ?_); exact h) | ((with_reducible refine VC.mk ?_); exact (Nat.le_trans hl.1 h)) | ((with_reducible refine VC.mk ?_); exact (Nat.le_trans hl.2 h)) | ((with_reducible refine splitT_of ?_ ?_); (focus (simp only [hb, hk, hT, ne_eq, not_true_eq_false, Bool.not_true, Bool.not_false, decide_true, decide_false]; done))) | ((with_reducible refine splitF_of ?_ ?_); (focus (simp only [hb, hk, hT, ne_eq, not_true_eq_false, Bool.not_true, Bool.not_false, decide_true, decide_false]; done))) | (with_reducible first | refine splitT ?_ | refine splitF ?_) | ((with_reducible refine splitM.mk (fun hsm => ?_) (fun hsm => ?_)) <;> (try exact zx)) | ((with_reducible refine splitB.mk (fun h => ?_) (fun h => ?_)) <;> (try simp only [zs, ne_eq] at h) <;> (try simp (disch := omega) only [w64] at h) <;> (try exact zx)) | (with_reducible intro hz; (try exact absurd hz (Nat.succ_ne_zero _)))))
      · have hb : (Lib.cut t [47]).2.2 = false := by simpa using hb
        have ho : frO t = (nmb (Lib.cut t [47]).1, 1) := by unfold frO; rw [hb]; rfl
        rw [ho] at hT ⊢
        refine funW tabOk (E := [(48, s_cut), (22, s_nmb), (71, s_frTI)]) ⟨ok_Cut, ok_number, ok_FracTextI, trivial⟩ [] (k := 0) (fn := Tryd.f47) rfl rfl rfl rfl rfl rfl ?_
        (repeat' ((try (conv => whnf)); first | (with_reducible first | refine And.intro ?_ ?_ | refine WX.of ?_) | exact zc | ((with_reducible refine VC.mk ?_); exact zw) | ((with_reducible refine VC.mk ?_); exact h) | ((with_reducible refine VC.mk ?_); exact (Nat.le_trans hl.1 h)) | ((with_reducible refine VC.mk ?_); exact (Nat.le_trans hl.2 h)) | ((with_reducible refine splitT_of ?_ ?_); (focus (simp only [hb, hk, hT, ne_eq, not_true_eq_false, Bool.not_true, Bool.not_false, decide_true, decide_false]; done))) | ((with_reducible refine splitF_of ?_ ?_); (focus (simp only [hb, hk, hT, ne_eq, not_true_eq_false, Bool.not_true, Bool.not_false, decide_true, decide_false]; done))) | (with_reducible first | refine splitT ?_ | refine splitF ?_) | ((with_reducible refine splitM.mk (fun hsm => ?_) (fun hsm => ?_)) <;> (try exact zx)) | ((with_reducible refine splitB.mk (fun h => ?_) (fun h => ?_)) <;> (try simp only [zs, ne_eq] at h) <;> (try simp (disch := omega) only [w64] at h) <;> (try exact zx)) | (with_reducible intro hz; (try exact absurd hz (Nat.succ_ne_zero _)))))
    · have hs : frP t = none := if_neg fun hh => hT hh.2
      rw [hs]
      by_cases hb : (Lib.cut t [47]).2.2 = true
      · have ho : frO t = (nmb (Lib.cut t [47]).1, nmb (Lib.cut t [47]).2.1) := by unfold frO; rw [if_pos hb]
        rw [ho] at hT
        refine funW tabOk (E := [(48, s_cut), (22, s_nmb), (71, s_frTI)]) ⟨ok_Cut, ok_number, ok_FracTextI, trivial⟩ [] (k := 0) (fn := Tryd.f47) rfl rfl rfl rfl rfl rfl ?_
        (repeat' ((try (conv => whnf)); first | (with_reducible first | refine And.intro ?_ ?_ | refine WX.of ?_) | exact zc | ((with_reducible refine VC.mk ?_); exact zw) | ((with_reducible refine VC.mk ?_); exact h) | ((with_reducible refine VC.mk ?_); exact (Nat.le_trans hl.1 h)) | ((with_reducible refine VC.mk ?_); exact (Nat.le_trans hl.2 h)) | ((with_reducible refine splitT_of ?_ ?_); (focus (simp only [hb, hk, hT, ne_eq, not_false_eq_true, Bool.not_true, Bool.not_false, decide_true, decide_false]; done))) | ((with_reducible refine splitF_of ?_ ?_); (focus (simp only [hb, hk, hT, ne_eq, not_false_eq_true, Bool.not_true, Bool.not_false, decide_true, decide_false]; done))) | (with_reducible first | refine splitT ?_ | refine splitF ?_) | ((with_reducible refine splitM.mk (fun hsm => ?_) (fun hsm => ?_)) <;> (try exact zx)) | ((with_reducible refine splitB.mk (fun h => ?_) (fun h => ?_)) <;> (try simp only [zs, ne_eq] at h) <;> (try simp (disch := omega) only [w64] at h) <;> (try exact zx)) | (with_reducible intro hz; (try exact absurd hz (Nat.succ_ne_zero _)))))
      · have hb : (Lib.cut t [47]).2.2 = false := by simpa using hb
        have ho : frO t = (nmb (Lib.cut t [47]).1, 1) := by unfold frO; rw [hb]; rfl
        rw [ho] at hT
        refine funW tabOk (E := [(48, s_cut), (22, s_nmb), (71, s_frTI)]) ⟨ok_Cut, ok_number, ok_FracTextI, trivial⟩ [] (k := 0) (fn := Tryd.f47) rfl rfl rfl rfl rfl rfl ?_
        (repeat' ((try (conv => whnf)); first | (with_reducible first | refine And.intro ?_ ?_ | refine WX.of ?_) | exact zc | ((with_reducible refine VC.mk ?_); exact zw) | ((with_reducible refine VC.mk ?_); exact h) | ((with_reducible refine VC.mk ?_); exact (Nat.le_trans hl.1 h)) | ((with_reducible refine VC.mk ?_); exact (Nat.le_trans hl.2 h)) | ((with_reducible refine splitT_of ?_ ?_); (focus (simp only [hb, hk, hT, ne_eq, not_false_eq_true, Bool.not_true, Bool.not_false, decide_true, decide_false]; done))) | ((with_reducible refine splitF_of ?_ ?_); (focus (simp only [hb, hk, hT, ne_eq, not_false_eq_true, Bool.not_true, Bool.not_false, decide_true, decide_false]; done))) | (with_reducible first | refine splitT ?_ | refine splitF ?_) | ((with_reducible refine splitM.mk (fun hsm => ?_) (fun hsm => ?_)) <;> (try exact zx)) | ((with_reducible refine splitB.mk (fun h => ?_) (fun h => ?_)) <;> (try simp only [zs, ne_eq] at h) <;> (try simp (disch := omega) only [w64] at h) <;> (try exact zx)) | (with_reducible intro hz; (try exact absurd hz (Nat.succ_ne_zero _)))))
def s_rdSI : Spec := fun args S => match args, S with
  | [.str t], [] => ⟨t.length ≤ 1048576, .tup [.agg [.int .i64 (spnD t).1.1, .int .i64 (spnD t).1.2, .int .i64 (spnD t).2.1, .int .i64 (spnD t).2.2], .int .i64 (okE (spnR t).isSome)], []⟩
  | _, _ => noSpec
theorem okE_ne (b : Bool) : decide (okE b ≠ 0) = !b := by cases b <;> rfl
theorem ok_ReadSpanI : SpecOk Tryd.prog 30 s_rdSI := by
  intro args S h; unfold s_rdSI at h ⊢; (split at h <;> first | exact False.elim h | skip)
  dsimp only at h ⊢
  rename_i t
  have hl := cut_len t [46, 46]
  have e := sp_same t
  unfold spnD
  rw [← e]
  have hO : spQ t = (frD (Lib.cut t [46, 46]).1, frD (Lib.cut t [46, 46]).2.1) := by unfold spQ frD; rw [fr_same, fr_same]
  by_cases h1 : (frR (Lib.cut t [46, 46]).1).isSome = true
  · have k1 : decide (okE (frR (Lib.cut t [46, 46]).1).isSome ≠ 0) = false := by rw [okE_ne, h1]; rfl
    by_cases h2 : (frR (Lib.cut t [46, 46]).2.1).isSome = true
    · have k2 : decide (okE (frR (Lib.cut t [46, 46]).2.1).isSome ≠ 0) = false := by rw [okE_ne, h2]; rfl
      by_cases hT : (if spOk (spQ t).1.1 (spQ t).1.2 (spQ t).2.1 (spQ t).2.2 = true then spT (spQ t).1.1 (spQ t).1.2 (spQ t).2.1 (spQ t).2.2 else []) = t
      · have hs : spnP t = some (spQ t) := if_pos ⟨⟨by rw [fr_same]; exact h1, by rw [fr_same]; exact h2⟩, hT⟩
        rw [hs]
        rw [hO] at hT ⊢
        refine funW tabOk (E := [(48, s_cut), (47, s_rdFI), (49, s_spTI)]) ⟨ok_Cut, ok_ReadFracI, ok_SpanTextI, trivial⟩ [] (k := 0) (fn := Tryd.f30) rfl rfl rfl rfl rfl rfl ?_
        (repeat' ((try (conv => whnf)); first | (with_reducible first | refine And.intro ?_ ?_ | refine WX.of ?_) | exact zc | ((with_reducible refine VC.mk ?_); exact zw) | ((with_reducible refine VC.mk ?_); exact h) | ((with_reducible refine VC.mk ?_); exact (Nat.le_trans hl.1 h)) | ((with_reducible refine VC.mk ?_); exact (Nat.le_trans hl.2 h)) | ((with_reducible refine splitT_of ?_ ?_); (focus (simp only [k1, k2, hT, ne_eq, not_true_eq_false, Bool.not_true, Bool.not_false, decide_true, decide_false]; done))) | ((with_reducible refine splitF_of ?_ ?_); (focus (simp only [k1, k2, hT, ne_eq, not_true_eq_false, Bool.not_true, Bool.not_false, decide_true, decide_false]; done))) | (with_reducible first | refine splitT ?_ | refine splitF ?_) | ((with_reducible refine splitM.mk (fun hsm => ?_) (fun hsm => ?_)) <;> (try exact zx)) | ((with_reducible refine splitB.mk (fun h => ?_) (fun h => ?_)) <;> (try simp only [zs, ne_eq] at h) <;> (try simp (disch := omega) only [w64] at h) <;> (try exact zx)) | (with_reducible intro hz; (try exact absurd hz (Nat.succ_ne_zero _)))))
      · have hs : spnP t = none := if_neg fun hh => hT hh.2
        rw [hs]
        rw [hO] at hT
        refine funW tabOk (E := [(48, s_cut), (47, s_rdFI), (49, s_spTI)]) ⟨ok_Cut, ok_ReadFracI, ok_SpanTextI, trivial⟩ [] (k := 0) (fn := Tryd.f30) rfl rfl rfl rfl rfl rfl ?_
        (repeat' ((try (conv => whnf)); first | (with_reducible first | refine And.intro ?_ ?_ | refine WX.of ?_) | exact zc | ((with_reducible refine VC.mk ?_); exact zw) | ((with_reducible refine VC.mk ?_); exact h) | ((with_reducible refine VC.mk ?_); exact (Nat.le_trans hl.1 h)) | ((with_reducible refine VC.mk ?_); exact (Nat.le_trans hl.2 h)) | ((with_reducible refine splitT_of ?_ ?_); (focus (simp only [k1, k2, hT, ne_eq, not_false_eq_true, Bool.not_true, Bool.not_false, decide_true, decide_false]; done))) | ((with_reducible refine splitF_of ?_ ?_); (focus (simp only [k1, k2, hT, ne_eq, not_false_eq_true, Bool.not_true, Bool.not_false, decide_true, decide_false]; done))) | (with_reducible first | refine splitT ?_ | refine splitF ?_) | ((with_reducible refine splitM.mk (fun hsm => ?_) (fun hsm => ?_)) <;> (try exact zx)) | ((with_reducible refine splitB.mk (fun h => ?_) (fun h => ?_)) <;> (try simp only [zs, ne_eq] at h) <;> (try simp (disch := omega) only [w64] at h) <;> (try exact zx)) | (with_reducible intro hz; (try exact absurd hz (Nat.succ_ne_zero _)))))
    · have k2 : decide (okE (frR (Lib.cut t [46, 46]).2.1).isSome ≠ 0) = true := by rw [okE_ne]; simpa using h2
      have hs : spnP t = none := if_neg fun hh => h2 (by rw [← fr_same]; exact hh.1.2)
      rw [hs]
      refine funW tabOk (E := [(48, s_cut), (47, s_rdFI), (49, s_spTI)]) ⟨ok_Cut, ok_ReadFracI, ok_SpanTextI, trivial⟩ [] (k := 0) (fn := Tryd.f30) rfl rfl rfl rfl rfl rfl ?_
      (repeat' ((try (conv => whnf)); first | (with_reducible first | refine And.intro ?_ ?_ | refine WX.of ?_) | exact zc | ((with_reducible refine VC.mk ?_); exact zw) | ((with_reducible refine VC.mk ?_); exact h) | ((with_reducible refine VC.mk ?_); exact (Nat.le_trans hl.1 h)) | ((with_reducible refine VC.mk ?_); exact (Nat.le_trans hl.2 h)) | ((with_reducible refine splitT_of ?_ ?_); (focus (simp only [k1, k2, Bool.not_true, Bool.not_false, decide_true, decide_false]; done))) | ((with_reducible refine splitF_of ?_ ?_); (focus (simp only [k1, k2, Bool.not_true, Bool.not_false, decide_true, decide_false]; done))) | (with_reducible first | refine splitT ?_ | refine splitF ?_) | ((with_reducible refine splitM.mk (fun hsm => ?_) (fun hsm => ?_)) <;> (try exact zx)) | ((with_reducible refine splitB.mk (fun h => ?_) (fun h => ?_)) <;> (try simp only [zs, ne_eq] at h) <;> (try simp (disch := omega) only [w64] at h) <;> (try exact zx)) | (with_reducible intro hz; (try exact absurd hz (Nat.succ_ne_zero _)))))
  · have k1 : decide (okE (frR (Lib.cut t [46, 46]).1).isSome ≠ 0) = true := by rw [okE_ne]; simpa using h1
    have hs : spnP t = none := if_neg fun hh => h1 (by rw [← fr_same]; exact hh.1.1)
    rw [hs]
    refine funW tabOk (E := [(48, s_cut), (47, s_rdFI), (49, s_spTI)]) ⟨ok_Cut, ok_ReadFracI, ok_SpanTextI, trivial⟩ [] (k := 0) (fn := Tryd.f30) rfl rfl rfl rfl rfl rfl ?_
    (repeat' ((try (conv => whnf)); first | (with_reducible first | refine And.intro ?_ ?_ | refine WX.of ?_) | exact zc | ((with_reducible refine VC.mk ?_); exact zw) | ((with_reducible refine VC.mk ?_); exact h) | ((with_reducible refine VC.mk ?_); exact (Nat.le_trans hl.1 h)) | ((with_reducible refine VC.mk ?_); exact (Nat.le_trans hl.2 h)) | ((with_reducible refine splitT_of ?_ ?_); (focus (simp only [k1, Bool.not_true, Bool.not_false, decide_true, decide_false]; done))) | ((with_reducible refine splitF_of ?_ ?_); (focus (simp only [k1, Bool.not_true, Bool.not_false, decide_true, decide_false]; done))) | (with_reducible first | refine splitT ?_ | refine splitF ?_) | ((with_reducible refine splitM.mk (fun hsm => ?_) (fun hsm => ?_)) <;> (try exact zx)) | ((with_reducible refine splitB.mk (fun h => ?_) (fun h => ?_)) <;> (try simp only [zs, ne_eq] at h) <;> (try simp (disch := omega) only [w64] at h) <;> (try exact zx)) | (with_reducible intro hz; (try exact absurd hz (Nat.succ_ne_zero _)))))
end Go.Proofs.YtamachahlhlhlaaDoor.Eng
set_option linter.unusedVariables false
set_option linter.unusedSimpArgs false
namespace Go.Proofs.YtamachahlhlhlaaDoor.Eng
open Go Go.RowKit
set_option maxRecDepth 100000
def s_sgnS : Spec := fun args S => match args, S with
  | [.str s], [] => ⟨s.length ≤ 1048576, .tup [.int .i64 ((sgnR s).getD 0), .bool (sgnR s).isSome], []⟩
  | _, _ => noSpec
theorem sgn_neg (r : List UInt8) : (sgnR (45 :: r)).getD 0 = -((numR r).getD 0) ∧ (sgnR (45 :: r)).isSome = ((numR r).isSome && decide (0 < (numR r).getD 0)) := by
  have hh : sgnR (45 :: r) = (numR r).bind fun n => if 0 < n then some (-n) else none := rfl
  rw [hh]
  cases e : numR r with
  | none => exact ⟨rfl, rfl⟩
  | some n =>
    have := (numR_to e).2.1
    simp only [Option.bind_some, Option.getD_some, Option.isSome_some, Bool.true_and]
    by_cases h : 0 < n
    · rw [if_pos h, decide_eq_true h]; exact ⟨rfl, rfl⟩
    · rw [if_neg h, decide_eq_false h]
      exact ⟨by simp; omega, rfl⟩
theorem ok_l01Signed : SpecOk Tryd.prog 14 s_sgnS := by
  intro args S h; unfold s_sgnS at h ⊢; (split at h <;> first | exact False.elim h | skip)
  dsimp only at h ⊢
  rename_i s
  match s, h with
  | [], h =>
    refine funW tabOk (E := [(15, s_numS)]) ⟨ok_l01Number, trivial⟩ [] (k := 0) (fn := Tryd.f14) rfl rfl rfl rfl rfl rfl ?_
    (repeat' ((try (conv => whnf)); first | (with_reducible first | refine And.intro ?_ ?_ | refine WX.of ?_) | exact zc | ((with_reducible refine VC.mk ?_); exact zw) | (with_reducible first | refine splitT ?_ | refine splitF ?_) | ((with_reducible refine splitM.mk (fun hsm => ?_) (fun hsm => ?_)) <;> (try exact zx)) | ((with_reducible refine splitB.mk (fun h => ?_) (fun h => ?_)) <;> (try simp only [zs, ne_eq] at h) <;> (try simp (disch := omega) only [w64] at h) <;> (try exact zx)) | (with_reducible intro hz; (try exact absurd hz (Nat.succ_ne_zero _)))))
  | x :: r, h =>
    have hx0 : (x :: r)[0]? = some x := rfl
    have hd : decide ((x :: r) = []) = false := decide_eq_false (by simp)
    have hd2 : decide ((x :: r) ≠ []) = true := decide_eq_true (by simp)
    have hb := numR_b r
    simp only [List.length_cons] at h
    by_cases hx : x = 45
    · subst hx
      obtain ⟨e1, e2⟩ := sgn_neg r
      rw [e1, e2]
      refine funW tabOk (E := [(15, s_numS)]) ⟨ok_l01Number, trivial⟩ [] (k := 0) (fn := Tryd.f14) rfl rfl rfl rfl rfl rfl ?_
      have hlen : (0 : Int) ≤ 1 ∧ (1 : Int) ≤ ((45 :: r).length : Int) := ⟨by decide, by rw [List.length_cons]; omega⟩
      have hle : (List.drop (Int.toNat 1) ((45 : UInt8) :: r)).length ≤ 1048576 := by show r.length ≤ 1048576; omega
      have hw : IntKind.i64.wrap (0 - (numR r).getD 0) = -(numR r).getD 0 := by rw [w64 (by omega)]; omega
      (repeat' ((try (conv => whnf)); first | (with_reducible first | refine And.intro ?_ ?_ | refine WX.of ?_) | exact zc | ((with_reducible refine VC.mk ?_); exact zw) | refine atL_w hx0 (by decide) ?_ | ((with_reducible refine splitT_of ?_ ?_); (focus (simp only [hd, hd2, Bool.not_true, Bool.not_false, decide_true, decide_false]; done))) | ((with_reducible refine splitF_of ?_ ?_); (focus (simp only [hd, hd2, Bool.not_true, Bool.not_false, decide_true, decide_false]; done))) | ((with_reducible refine VC.mk ?_); exact hlen) | ((with_reducible refine VC.mk ?_); exact hle) | (with_reducible first | refine splitT ?_ | refine splitF ?_) | ((with_reducible refine splitM.mk (fun hsm => ?_) (fun hsm => ?_)) <;> (try exact zx)) | ((with_reducible refine splitB.mk (fun h => ?_) (fun h => ?_)) <;> (try simp only [zs, ne_eq] at h) <;> (try simp (disch := omega) only [w64] at h) <;> (try exact zx)) | (with_reducible intro hz; (try exact absurd hz (Nat.succ_ne_zero _)))))
      all_goals first
        | exact absurd rfl ‹_›
        | (refine ⟨?_⟩
           show SV.tup [SV.int IntKind.i64 (IntKind.i64.wrap (0 - (numR r).getD 0)), SV.bool _] = _
           rw [hw]
           first
             | (rw [show (numR r).isSome = true from ‹_›]; rfl)
             | (rw [show (numR r).isSome = false from ‹_›]; rfl))
    · have e : sgnR (x :: r) = numR (x :: r) := by
        unfold sgnR
        split
        · rename_i h2; injection h2 with h2; exact absurd h2 hx
        · rfl
      rw [e]
      refine funW tabOk (E := [(15, s_numS)]) ⟨ok_l01Number, trivial⟩ [] (k := 0) (fn := Tryd.f14) rfl rfl rfl rfl rfl rfl ?_
      have hle : ((x :: r) : List UInt8).length ≤ 1048576 := by rw [List.length_cons]; exact h
      have hxn : ¬ (x.toNat : Int) = 45 := fun h9 => hx (UInt8.toNat_inj.1 (Int.ofNat.inj h9))
      (repeat' ((try (conv => whnf)); first | (with_reducible first | refine And.intro ?_ ?_ | refine WX.of ?_) | exact zc | ((with_reducible refine VC.mk ?_); exact zw) | refine atL_w hx0 (by decide) ?_ | ((with_reducible refine splitT_of ?_ ?_); (focus (simp only [hd, hd2, Bool.not_true, Bool.not_false, decide_true, decide_false]; done))) | ((with_reducible refine splitF_of ?_ ?_); (focus (simp only [hd, hd2, Bool.not_true, Bool.not_false, decide_true, decide_false]; done))) | ((with_reducible refine VC.mk ?_); exact hle) | (with_reducible first | refine splitT ?_ | refine splitF ?_) | ((with_reducible refine splitM.mk (fun hsm => ?_) (fun hsm => ?_)) <;> (try exact zx)) | ((with_reducible refine splitB.mk (fun h => ?_) (fun h => ?_)) <;> (try simp only [zs, ne_eq] at h) <;> (try simp (disch := omega) only [w64] at h) <;> (try exact zx)) | (with_reducible intro hz; (try exact absurd hz (Nat.succ_ne_zero _)))))
def s_rdFS : Spec := fun args S => match args, S with
  | [.str t], [] => ⟨t.length ≤ 1048576, .tup [.agg [.int .i64 (frJ t).1, .int .i64 (frJ t).2], .bool (frR t).isSome], []⟩
  | _, _ => noSpec
theorem frR_1 {t a : List UInt8} (h : splL 47 t = [a]) : (frR t).isSome = ((sgnR a).isSome && fOk ((sgnR a).getD 0) 1) ∧ frJ t = ((sgnR a).getD 0, 1) := by
  constructor
  · unfold frR
    rw [h]
    simp only
    cases e : sgnR a with
    | none => rfl
    | some p =>
      simp only [Option.bind_some, Option.isSome_some, Option.getD_some, Bool.true_and]
      by_cases hf : fOk p 1 = true
      · rw [if_pos hf, hf]; rfl
      · rw [if_neg hf, show fOk p 1 = false by simpa using hf]; rfl
  · unfold frJ; rw [h]
theorem frR_2 {t a b : List UInt8} (h : splL 47 t = [a, b]) : (frR t).isSome = (((sgnR a).isSome && (numR b).isSome && decide ((numR b).getD 0 ≠ 1)) && fOk ((sgnR a).getD 0) ((numR b).getD 0)) ∧ frJ t = ((sgnR a).getD 0, (numR b).getD 0) := by
  constructor
  · unfold frR
    rw [h]
    simp only
    cases e : sgnR a with
    | none => rfl
    | some p =>
      cases e2 : numR b with
      | none => rfl
      | some q =>
        simp only [Option.bind_some, Option.isSome_some, Option.getD_some, Bool.true_and]
        by_cases hf : q ≠ 1 ∧ fOk p q = true
        · rw [if_pos hf, decide_eq_true hf.1, hf.2]; rfl
        · rw [if_neg hf]
          by_cases hq : q = 1
          · rw [show decide (q ≠ 1) = false from decide_eq_false fun h => h hq]; rfl
          · rw [show fOk p q = false from by
              cases hh : fOk p q with
              | false => rfl
              | true => exact absurd ⟨hq, hh⟩ hf, Bool.and_false]; rfl
  · unfold frJ; rw [h]
theorem ok_l01Read : SpecOk Tryd.prog 26 s_rdFS := by
  intro args S h; unfold s_rdFS at h ⊢; (split at h <;> first | exact False.elim h | skip)
  dsimp only at h ⊢
  rename_i t
  have hs := fun x hx => splL_sub 47 t x hx
  have hll := splL_len 47 t
  match e : splL 47 t with
  | [] => exact absurd e (splL_ne _ _)
  | [a] =>
    have ha := hs a (by rw [e]; simp)
    obtain ⟨e1, e2⟩ := frR_1 e
    have hA0 : (splL 47 t)[0]? = some a := by rw [e]; rfl
    have hn : (splL 47 t).length = 1 := by rw [e]; rfl
    have k1 : decide (((splL 47 t).length : Int) > 2) = false := by rw [hn]; rfl
    have k2 : decide (((splL 47 t).length : Int) = 2) = false := by rw [hn]; rfl
    have k1 : decide (2 < ((splL 47 t).length : Int)) = false := by rw [hn]; rfl
    rw [e1, e2]
    refine funW tabOk (E := [(13, (s_splS 47)), (14, s_sgnS), (15, s_numS), (43, s_num), (44, s_fOk)]) ⟨(ok_l01Split 47), ok_l01Signed, ok_l01Number, ok_l01Whole, ok_l01Ok, trivial⟩ [(10, [(0, 1)])] (k := 0) (fn := Tryd.f26) rfl rfl rfl rfl rfl rfl ?_
    (repeat' ((try (conv => whnf)); first | (with_reducible first | refine And.intro ?_ ?_ | refine WX.of ?_) | exact zc | ((with_reducible refine VC.mk ?_); exact zw) | refine atL_w hA0 (by decide) ?_ | ((with_reducible refine splitT_of ?_ ?_); (focus (simp only [k1, k2, Bool.not_true, Bool.not_false, decide_true, decide_false]; done))) | ((with_reducible refine splitF_of ?_ ?_); (focus (simp only [k1, k2, Bool.not_true, Bool.not_false, decide_true, decide_false]; done))) | ((with_reducible refine VC.mk ?_); exact ⟨h, rfl⟩) | (with_reducible first | refine splitT ?_ | refine splitF ?_) | ((with_reducible refine splitM.mk (fun hsm => ?_) (fun hsm => ?_)) <;> (try exact zx)) | ((with_reducible refine splitB.mk (fun h => ?_) (fun h => ?_)) <;> (try simp only [zs, ne_eq] at h) <;> (try simp (disch := omega) only [w64] at h) <;> (try exact zx)) | (with_reducible intro hz; (try exact absurd hz (Nat.succ_ne_zero _)))))
    all_goals (refine ⟨?_⟩; dsimp only; clear e1 e2 hA0 hn k1 k2; simp [*]; done)
  | [a, b] =>
    have ha := hs a (by rw [e]; simp)
    have hb := hs b (by rw [e]; simp)
    obtain ⟨e1, e2⟩ := frR_2 e
    have hA0 : (splL 47 t)[0]? = some a := by rw [e]; rfl
    have hA1 : (splL 47 t)[1]? = some b := by rw [e]; rfl
    have hn : (splL 47 t).length = 2 := by rw [e]; rfl
    have k1 : decide (2 < ((splL 47 t).length : Int)) = false := by rw [hn]; rfl
    have k2 : decide (((splL 47 t).length : Int) = 2) = true := by rw [hn]; rfl
    rw [e1, e2]
    refine funW tabOk (E := [(13, (s_splS 47)), (14, s_sgnS), (15, s_numS), (43, s_num), (44, s_fOk)]) ⟨(ok_l01Split 47), ok_l01Signed, ok_l01Number, ok_l01Whole, ok_l01Ok, trivial⟩ [(10, [(0, 1)])] (k := 0) (fn := Tryd.f26) rfl rfl rfl rfl rfl rfl ?_
    (repeat' ((try (conv => whnf)); first | (with_reducible first | refine And.intro ?_ ?_ | refine WX.of ?_) | exact zc | ((with_reducible refine VC.mk ?_); exact zw) | refine atL_w hA0 (by decide) ?_ | refine atL_w hA1 (by decide) ?_ | ((with_reducible refine splitT_of ?_ ?_); (focus (simp only [k1, k2, Bool.not_true, Bool.not_false, decide_true, decide_false]; done))) | ((with_reducible refine splitF_of ?_ ?_); (focus (simp only [k1, k2, Bool.not_true, Bool.not_false, decide_true, decide_false]; done))) | ((with_reducible refine VC.mk ?_); exact ⟨h, rfl⟩) | (with_reducible first | refine splitT ?_ | refine splitF ?_) | ((with_reducible refine splitM.mk (fun hsm => ?_) (fun hsm => ?_)) <;> (try exact zx)) | ((with_reducible refine splitB.mk (fun h => ?_) (fun h => ?_)) <;> (try simp only [zs, ne_eq] at h) <;> (try simp (disch := omega) only [w64] at h) <;> (try exact zx)) | (with_reducible intro hz; (try exact absurd hz (Nat.succ_ne_zero _)))))
    all_goals (refine ⟨?_⟩; dsimp only; clear e1 e2 hA0 hA1 hn k1 k2; simp [*]; done)
  | a :: b :: c :: r =>
    have hn : 3 ≤ (splL 47 t).length := by rw [e]; simp
    have k1 : decide (2 < ((splL 47 t).length : Int)) = true := decide_eq_true (by omega)
    have e1 : frR t = none := by unfold frR; rw [e]
    have e2 : frJ t = (0, 0) := by unfold frJ; rw [e]
    rw [e1, e2]
    refine funW tabOk (E := [(13, (s_splS 47)), (14, s_sgnS), (15, s_numS), (43, s_num), (44, s_fOk)]) ⟨(ok_l01Split 47), ok_l01Signed, ok_l01Number, ok_l01Whole, ok_l01Ok, trivial⟩ [(10, [(0, 1)])] (k := 0) (fn := Tryd.f26) rfl rfl rfl rfl rfl rfl ?_
    (repeat' ((try (conv => whnf)); first | (with_reducible first | refine And.intro ?_ ?_ | refine WX.of ?_) | exact zc | ((with_reducible refine VC.mk ?_); exact zw) | ((with_reducible refine splitT_of ?_ ?_); (focus (simp only [k1, Bool.not_true, Bool.not_false, decide_true, decide_false]; done))) | ((with_reducible refine splitF_of ?_ ?_); (focus (simp only [k1, Bool.not_true, Bool.not_false, decide_true, decide_false]; done))) | ((with_reducible refine VC.mk ?_); exact ⟨h, rfl⟩) | (with_reducible first | refine splitT ?_ | refine splitF ?_) | ((with_reducible refine splitM.mk (fun hsm => ?_) (fun hsm => ?_)) <;> (try exact zx)) | ((with_reducible refine splitB.mk (fun h => ?_) (fun h => ?_)) <;> (try simp only [zs, ne_eq] at h) <;> (try simp (disch := omega) only [w64] at h) <;> (try exact zx)) | (with_reducible intro hz; (try exact absurd hz (Nat.succ_ne_zero _)))))
end Go.Proofs.YtamachahlhlhlaaDoor.Eng
