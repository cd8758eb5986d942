/- Lemmas for the proof, no conditions of their own. -/
import Derived.Test.YtamachahlhlhlaaDoorQA2
import Derived.Test.YtamachahlhlhlaaDoorProg
import Derived.KernelRfl
import Derived.Shelf.Strconv.Itoa4
import Derived.Shelf.Strings.OnBuilder
import Derived.Ground.NamesProg
import Derived.Deep.RegionWith
import Derived.Lib.ParseIntBTie
import Derived.Shelf.Strconv.ErrVarParseInt
import Derived.Shelf.Strings.SplitShaped
import Derived.Lib.SplitLaws
import Derived.Lib.CutLaws
import Derived.Shelf.Strings.Cut
set_option linter.unusedVariables false
set_option linter.unusedSimpArgs false
set_option maxRecDepth 100000
namespace Go.Proofs.YtamachahlhlhlaaDoor.Eng
open Go Go.RowKit
def t_1 : TyD := { und := TypeDesc.func #[] #[] false, size := 1, bytes := 8, zero := [Value.nilFunc], fl := false }
theorem i_1 : TabE Tryd.prog (1, t_1, false) := ⟨by kernel_rfl, fun h => by simp at h⟩
def t_2 : TyD := { und := TypeDesc.int IntKind.i64, size := 1, bytes := 8, zero := [Value.int IntKind.i64 0], fl := true }
theorem i_2 : TabE Tryd.prog (2, t_2, false) := ⟨by kernel_rfl, fun h => by simp at h⟩
def t_3 : TyD := { und := TypeDesc.int IntKind.i64, size := 1, bytes := 8, zero := [Value.int IntKind.i64 0], fl := true }
theorem i_3 : TabE Tryd.prog (3, t_3, false) := ⟨by kernel_rfl, fun h => by simp at h⟩
def t_4 : TyD := { und := TypeDesc.bool, size := 1, bytes := 1, zero := [Value.bool false], fl := true }
theorem i_4 : TabE Tryd.prog (4, t_4, false) := ⟨by kernel_rfl, fun h => by simp at h⟩
def t_5 : TyD := { und := TypeDesc.int IntKind.u8, size := 1, bytes := 1, zero := [Value.int IntKind.u8 0], fl := true }
theorem i_5 : TabE Tryd.prog (5, t_5, false) := ⟨by kernel_rfl, fun h => by simp at h⟩
def t_6 : TyD := { und := TypeDesc.int IntKind.u8, size := 1, bytes := 1, zero := [Value.int IntKind.u8 0], fl := true }
theorem i_6 : TabE Tryd.prog (6, t_6, false) := ⟨by kernel_rfl, fun h => by simp at h⟩
def t_7 : TyD := { und := TypeDesc.struct #[{ name := "x", type := 2, offset := 0, embedded := false, tag := "", pkgPath := "runtime", byteOffset := 0 }, { name := "y", type := 3, offset := 1, embedded := false, tag := "", pkgPath := "runtime", byteOffset := 8 }, { name := "signed", type := 4, offset := 2, embedded := false, tag := "", pkgPath := "runtime", byteOffset := 16 }, { name := "code", type := 6, offset := 3, embedded := false, tag := "", pkgPath := "runtime", byteOffset := 17 }], size := 4, bytes := 24, zero := [Value.int IntKind.i64 0, Value.int IntKind.i64 0, Value.bool false, Value.int IntKind.u8 0], fl := true }
theorem i_7 : TabE Tryd.prog (7, t_7, true) := ⟨by kernel_rfl, fun _ => by kernel_rfl⟩
def t_8 : TyD := { und := TypeDesc.struct #[{ name := "x", type := 2, offset := 0, embedded := false, tag := "", pkgPath := "runtime", byteOffset := 0 }, { name := "y", type := 3, offset := 1, embedded := false, tag := "", pkgPath := "runtime", byteOffset := 8 }, { name := "signed", type := 4, offset := 2, embedded := false, tag := "", pkgPath := "runtime", byteOffset := 16 }, { name := "code", type := 6, offset := 3, embedded := false, tag := "", pkgPath := "runtime", byteOffset := 17 }], size := 4, bytes := 24, zero := [Value.int IntKind.i64 0, Value.int IntKind.i64 0, Value.bool false, Value.int IntKind.u8 0], fl := true }
theorem i_8 : TabE Tryd.prog (8, t_8, true) := ⟨by kernel_rfl, fun _ => by kernel_rfl⟩
def t_9 : TyD := { und := TypeDesc.string, size := 1, bytes := 16, zero := [Value.string ⟨#[]⟩], fl := true }
theorem i_9 : TabE Tryd.prog (9, t_9, false) := ⟨by kernel_rfl, fun h => by simp at h⟩
def t_10 : TyD := { und := TypeDesc.string, size := 1, bytes := 16, zero := [Value.string ⟨#[]⟩], fl := true }
theorem i_10 : TabE Tryd.prog (10, t_10, false) := ⟨by kernel_rfl, fun h => by simp at h⟩
def t_11 : TyD := { und := TypeDesc.string, size := 1, bytes := 16, zero := [Value.string ⟨#[]⟩], fl := true }
theorem i_11 : TabE Tryd.prog (11, t_11, false) := ⟨by kernel_rfl, fun h => by simp at h⟩
def t_12 : TyD := { und := TypeDesc.int IntKind.u64, size := 1, bytes := 8, zero := [Value.int IntKind.u64 0], fl := true }
theorem i_12 : TabE Tryd.prog (12, t_12, false) := ⟨by kernel_rfl, fun h => by simp at h⟩
def t_13 : TyD := { und := TypeDesc.struct #[{ name := "msg", type := 9, offset := 0, embedded := false, tag := "", pkgPath := "runtime", byteOffset := 0 }, { name := "addr", type := 12, offset := 1, embedded := false, tag := "", pkgPath := "runtime", byteOffset := 16 }], size := 2, bytes := 24, zero := [Value.string ⟨#[]⟩, Value.int IntKind.u64 0], fl := true }
theorem i_13 : TabE Tryd.prog (13, t_13, false) := ⟨by kernel_rfl, fun h => by simp at h⟩
def t_14 : TyD := { und := TypeDesc.struct #[{ name := "msg", type := 9, offset := 0, embedded := false, tag := "", pkgPath := "runtime", byteOffset := 0 }, { name := "addr", type := 12, offset := 1, embedded := false, tag := "", pkgPath := "runtime", byteOffset := 16 }], size := 2, bytes := 24, zero := [Value.string ⟨#[]⟩, Value.int IntKind.u64 0], fl := true }
theorem i_14 : TabE Tryd.prog (14, t_14, false) := ⟨by kernel_rfl, fun h => by simp at h⟩
def t_15 : TyD := { und := TypeDesc.pointer 163, size := 1, bytes := 8, zero := [Value.pointer none], fl := false }
theorem i_15 : TabE Tryd.prog (15, t_15, false) := ⟨by kernel_rfl, fun h => by simp at h⟩
def t_16 : TyD := { und := TypeDesc.pointer 166, size := 1, bytes := 8, zero := [Value.pointer none], fl := false }
theorem i_16 : TabE Tryd.prog (16, t_16, false) := ⟨by kernel_rfl, fun h => by simp at h⟩
def t_17 : TyD := { und := TypeDesc.pointer 174, size := 1, bytes := 8, zero := [Value.pointer none], fl := false }
theorem i_17 : TabE Tryd.prog (17, t_17, false) := ⟨by kernel_rfl, fun h => by simp at h⟩
def t_18 : TyD := { und := TypeDesc.struct #[{ name := "typ", type := 17, offset := 0, embedded := false, tag := "", pkgPath := "internal/runtime/maps", byteOffset := 0 }], size := 1, bytes := 8, zero := [Value.pointer none], fl := false }
theorem i_18 : TabE Tryd.prog (18, t_18, false) := ⟨by kernel_rfl, fun h => by simp at h⟩
def t_19 : TyD := { und := TypeDesc.struct #[{ name := "typ", type := 17, offset := 0, embedded := false, tag := "", pkgPath := "internal/runtime/maps", byteOffset := 0 }], size := 1, bytes := 8, zero := [Value.pointer none], fl := false }
theorem i_19 : TabE Tryd.prog (19, t_19, false) := ⟨by kernel_rfl, fun h => by simp at h⟩
def t_21 : TyD := { und := TypeDesc.int IntKind.i32, size := 1, bytes := 4, zero := [Value.int IntKind.i32 0], fl := true }
theorem i_21 : TabE Tryd.prog (21, t_21, false) := ⟨by kernel_rfl, fun h => by simp at h⟩
def t_22 : TyD := { und := TypeDesc.slice 46, size := 1, bytes := 24, zero := [Value.slice none 0 0], fl := false }
theorem i_22 : TabE Tryd.prog (22, t_22, false) := ⟨by kernel_rfl, fun h => by simp at h⟩
def t_24 : TyD := { und := TypeDesc.func #[9] #[22, 2] false, size := 1, bytes := 8, zero := [Value.nilFunc], fl := false }
theorem i_24 : TabE Tryd.prog (24, t_24, false) := ⟨by kernel_rfl, fun h => by simp at h⟩
def t_25 : TyD := { und := TypeDesc.func #[22, 22] #[4] false, size := 1, bytes := 8, zero := [Value.nilFunc], fl := false }
theorem i_25 : TabE Tryd.prog (25, t_25, false) := ⟨by kernel_rfl, fun h => by simp at h⟩
def t_26 : TyD := { und := TypeDesc.func #[22, 3] #[3] false, size := 1, bytes := 8, zero := [Value.nilFunc], fl := false }
theorem i_26 : TabE Tryd.prog (26, t_26, false) := ⟨by kernel_rfl, fun h => by simp at h⟩
def t_27 : TyD := { und := TypeDesc.func #[9] #[4] false, size := 1, bytes := 8, zero := [Value.nilFunc], fl := false }
theorem i_27 : TabE Tryd.prog (27, t_27, false) := ⟨by kernel_rfl, fun h => by simp at h⟩
def t_28 : TyD := { und := TypeDesc.struct #[{ name := "P", type := 2, offset := 0, embedded := false, tag := "", pkgPath := "", byteOffset := 0 }, { name := "Q", type := 2, offset := 1, embedded := false, tag := "", pkgPath := "", byteOffset := 8 }], size := 2, bytes := 16, zero := [Value.int IntKind.i64 0, Value.int IntKind.i64 0], fl := true }
theorem i_28 : TabE Tryd.prog (28, t_28, true) := ⟨by kernel_rfl, fun _ => by kernel_rfl⟩
def t_29 : TyD := { und := TypeDesc.struct #[{ name := "P", type := 2, offset := 0, embedded := false, tag := "", pkgPath := "", byteOffset := 0 }, { name := "Q", type := 2, offset := 1, embedded := false, tag := "", pkgPath := "", byteOffset := 8 }], size := 2, bytes := 16, zero := [Value.int IntKind.i64 0, Value.int IntKind.i64 0], fl := true }
theorem i_29 : TabE Tryd.prog (29, t_29, true) := ⟨by kernel_rfl, fun _ => by kernel_rfl⟩
def t_30 : TyD := { und := TypeDesc.struct #[{ name := "Thing", type := 2, offset := 0, embedded := false, tag := "", pkgPath := "", byteOffset := 0 }, { name := "Warm", type := 29, offset := 1, embedded := false, tag := "", pkgPath := "", byteOffset := 8 }, { name := "Start", type := 29, offset := 3, embedded := false, tag := "", pkgPath := "", byteOffset := 24 }], size := 5, bytes := 40, zero := [Value.int IntKind.i64 0, Value.int IntKind.i64 0, Value.int IntKind.i64 0, Value.int IntKind.i64 0, Value.int IntKind.i64 0], fl := true }
theorem i_30 : TabE Tryd.prog (30, t_30, true) := ⟨by kernel_rfl, fun _ => by kernel_rfl⟩
def t_31 : TyD := { und := TypeDesc.struct #[{ name := "Thing", type := 2, offset := 0, embedded := false, tag := "", pkgPath := "", byteOffset := 0 }, { name := "Warm", type := 29, offset := 1, embedded := false, tag := "", pkgPath := "", byteOffset := 8 }, { name := "Start", type := 29, offset := 3, embedded := false, tag := "", pkgPath := "", byteOffset := 24 }], size := 5, bytes := 40, zero := [Value.int IntKind.i64 0, Value.int IntKind.i64 0, Value.int IntKind.i64 0, Value.int IntKind.i64 0, Value.int IntKind.i64 0], fl := true }
theorem i_31 : TabE Tryd.prog (31, t_31, true) := ⟨by kernel_rfl, fun _ => by kernel_rfl⟩
def t_32 : TyD := { und := TypeDesc.struct #[{ name := "Low", type := 29, offset := 0, embedded := false, tag := "", pkgPath := "", byteOffset := 0 }, { name := "High", type := 29, offset := 2, embedded := false, tag := "", pkgPath := "", byteOffset := 16 }], size := 4, bytes := 32, zero := [Value.int IntKind.i64 0, Value.int IntKind.i64 0, Value.int IntKind.i64 0, Value.int IntKind.i64 0], fl := true }
theorem i_32 : TabE Tryd.prog (32, t_32, true) := ⟨by kernel_rfl, fun _ => by kernel_rfl⟩
def t_33 : TyD := { und := TypeDesc.struct #[{ name := "Low", type := 29, offset := 0, embedded := false, tag := "", pkgPath := "", byteOffset := 0 }, { name := "High", type := 29, offset := 2, embedded := false, tag := "", pkgPath := "", byteOffset := 16 }], size := 4, bytes := 32, zero := [Value.int IntKind.i64 0, Value.int IntKind.i64 0, Value.int IntKind.i64 0, Value.int IntKind.i64 0], fl := true }
theorem i_33 : TabE Tryd.prog (33, t_33, true) := ⟨by kernel_rfl, fun _ => by kernel_rfl⟩
def t_34 : TyD := { und := TypeDesc.struct #[{ name := "Shot", type := 31, offset := 0, embedded := false, tag := "", pkgPath := "", byteOffset := 0 }, { name := "First", type := 29, offset := 5, embedded := false, tag := "", pkgPath := "", byteOffset := 40 }, { name := "Second", type := 29, offset := 7, embedded := false, tag := "", pkgPath := "", byteOffset := 56 }, { name := "Length", type := 29, offset := 9, embedded := false, tag := "", pkgPath := "", byteOffset := 72 }, { name := "Open", type := 33, offset := 11, embedded := false, tag := "", pkgPath := "", byteOffset := 88 }], size := 15, bytes := 120, zero := [Value.int IntKind.i64 0, Value.int IntKind.i64 0, Value.int IntKind.i64 0, Value.int IntKind.i64 0, Value.int IntKind.i64 0, Value.int IntKind.i64 0, Value.int IntKind.i64 0, Value.int IntKind.i64 0, Value.int IntKind.i64 0, Value.int IntKind.i64 0, Value.int IntKind.i64 0, Value.int IntKind.i64 0, Value.int IntKind.i64 0, Value.int IntKind.i64 0, Value.int IntKind.i64 0], fl := true }
theorem i_34 : TabE Tryd.prog (34, t_34, true) := ⟨by kernel_rfl, fun _ => by kernel_rfl⟩
def t_35 : TyD := { und := TypeDesc.struct #[{ name := "Shot", type := 31, offset := 0, embedded := false, tag := "", pkgPath := "", byteOffset := 0 }, { name := "First", type := 29, offset := 5, embedded := false, tag := "", pkgPath := "", byteOffset := 40 }, { name := "Second", type := 29, offset := 7, embedded := false, tag := "", pkgPath := "", byteOffset := 56 }, { name := "Length", type := 29, offset := 9, embedded := false, tag := "", pkgPath := "", byteOffset := 72 }, { name := "Open", type := 33, offset := 11, embedded := false, tag := "", pkgPath := "", byteOffset := 88 }], size := 15, bytes := 120, zero := [Value.int IntKind.i64 0, Value.int IntKind.i64 0, Value.int IntKind.i64 0, Value.int IntKind.i64 0, Value.int IntKind.i64 0, Value.int IntKind.i64 0, Value.int IntKind.i64 0, Value.int IntKind.i64 0, Value.int IntKind.i64 0, Value.int IntKind.i64 0, Value.int IntKind.i64 0, Value.int IntKind.i64 0, Value.int IntKind.i64 0, Value.int IntKind.i64 0, Value.int IntKind.i64 0], fl := true }
theorem i_35 : TabE Tryd.prog (35, t_35, true) := ⟨by kernel_rfl, fun _ => by kernel_rfl⟩
def t_37 : TyD := { und := TypeDesc.func #[9] #[35, 2] false, size := 1, bytes := 8, zero := [Value.nilFunc], fl := false }
theorem i_37 : TabE Tryd.prog (37, t_37, false) := ⟨by kernel_rfl, fun h => by simp at h⟩
def t_38 : TyD := { und := TypeDesc.func #[35, 35] #[4] false, size := 1, bytes := 8, zero := [Value.nilFunc], fl := false }
theorem i_38 : TabE Tryd.prog (38, t_38, false) := ⟨by kernel_rfl, fun h => by simp at h⟩
def t_39 : TyD := { und := TypeDesc.slice 9, size := 1, bytes := 24, zero := [Value.slice none 0 0], fl := false }
theorem i_39 : TabE Tryd.prog (39, t_39, false) := ⟨by kernel_rfl, fun h => by simp at h⟩
def t_40 : TyD := { und := TypeDesc.func #[9, 5] #[39] false, size := 1, bytes := 8, zero := [Value.nilFunc], fl := false }
theorem i_40 : TabE Tryd.prog (40, t_40, false) := ⟨by kernel_rfl, fun h => by simp at h⟩
def t_42 : TyD := { und := TypeDesc.func #[9] #[2, 4] false, size := 1, bytes := 8, zero := [Value.nilFunc], fl := false }
theorem i_42 : TabE Tryd.prog (42, t_42, false) := ⟨by kernel_rfl, fun h => by simp at h⟩
def t_43 : TyD := { und := TypeDesc.func #[2, 2, 2] #[4] false, size := 1, bytes := 8, zero := [Value.nilFunc], fl := false }
theorem i_43 : TabE Tryd.prog (43, t_43, false) := ⟨by kernel_rfl, fun h => by simp at h⟩
def t_44 : TyD := { und := TypeDesc.int IntKind.i16, size := 1, bytes := 2, zero := [Value.int IntKind.i16 0], fl := true }
theorem i_44 : TabE Tryd.prog (44, t_44, false) := ⟨by kernel_rfl, fun h => by simp at h⟩
def t_45 : TyD := { und := TypeDesc.struct #[{ name := "Name", type := 9, offset := 0, embedded := false, tag := "", pkgPath := "", byteOffset := 0 }, { name := "Bias", type := 44, offset := 1, embedded := false, tag := "", pkgPath := "", byteOffset := 16 }, { name := "Unit", type := 44, offset := 2, embedded := false, tag := "", pkgPath := "", byteOffset := 18 }, { name := "Up", type := 4, offset := 3, embedded := false, tag := "", pkgPath := "", byteOffset := 20 }], size := 4, bytes := 24, zero := [Value.string ⟨#[]⟩, Value.int IntKind.i16 0, Value.int IntKind.i16 0, Value.bool false], fl := true }
theorem i_45 : TabE Tryd.prog (45, t_45, true) := ⟨by kernel_rfl, fun _ => by kernel_rfl⟩
def t_46 : TyD := { und := TypeDesc.struct #[{ name := "Name", type := 9, offset := 0, embedded := false, tag := "", pkgPath := "", byteOffset := 0 }, { name := "Bias", type := 44, offset := 1, embedded := false, tag := "", pkgPath := "", byteOffset := 16 }, { name := "Unit", type := 44, offset := 2, embedded := false, tag := "", pkgPath := "", byteOffset := 18 }, { name := "Up", type := 4, offset := 3, embedded := false, tag := "", pkgPath := "", byteOffset := 20 }], size := 4, bytes := 24, zero := [Value.string ⟨#[]⟩, Value.int IntKind.i16 0, Value.int IntKind.i16 0, Value.bool false], fl := true }
theorem i_46 : TabE Tryd.prog (46, t_46, true) := ⟨by kernel_rfl, fun _ => by kernel_rfl⟩
def t_47 : TyD := { und := TypeDesc.func #[22] #[4] false, size := 1, bytes := 8, zero := [Value.nilFunc], fl := false }
theorem i_47 : TabE Tryd.prog (47, t_47, false) := ⟨by kernel_rfl, fun h => by simp at h⟩
def t_48 : TyD := { und := TypeDesc.func #[22] #[9] false, size := 1, bytes := 8, zero := [Value.nilFunc], fl := false }
theorem i_48 : TabE Tryd.prog (48, t_48, false) := ⟨by kernel_rfl, fun h => by simp at h⟩
def t_50 : TyD := { und := TypeDesc.func #[9] #[39, 4] false, size := 1, bytes := 8, zero := [Value.nilFunc], fl := false }
theorem i_50 : TabE Tryd.prog (50, t_50, false) := ⟨by kernel_rfl, fun h => by simp at h⟩
def t_51 : TyD := { und := TypeDesc.func #[9, 9] #[39] false, size := 1, bytes := 8, zero := [Value.nilFunc], fl := false }
theorem i_51 : TabE Tryd.prog (51, t_51, false) := ⟨by kernel_rfl, fun h => by simp at h⟩
def t_52 : TyD := { und := TypeDesc.func #[9] #[2] false, size := 1, bytes := 8, zero := [Value.nilFunc], fl := false }
theorem i_52 : TabE Tryd.prog (52, t_52, false) := ⟨by kernel_rfl, fun h => by simp at h⟩
def t_53 : TyD := { und := TypeDesc.func #[46, 46] #[4] false, size := 1, bytes := 8, zero := [Value.nilFunc], fl := false }
theorem i_53 : TabE Tryd.prog (53, t_53, false) := ⟨by kernel_rfl, fun h => by simp at h⟩
def t_54 : TyD := { und := TypeDesc.func #[3] #[9] false, size := 1, bytes := 8, zero := [Value.nilFunc], fl := false }
theorem i_54 : TabE Tryd.prog (54, t_54, false) := ⟨by kernel_rfl, fun h => by simp at h⟩
def t_55 : TyD := { und := TypeDesc.slice 29, size := 1, bytes := 24, zero := [Value.slice none 0 0], fl := false }
theorem i_55 : TabE Tryd.prog (55, t_55, false) := ⟨by kernel_rfl, fun h => by simp at h⟩
def t_57 : TyD := { und := TypeDesc.func #[9] #[29, 4] false, size := 1, bytes := 8, zero := [Value.nilFunc], fl := false }
theorem i_57 : TabE Tryd.prog (57, t_57, false) := ⟨by kernel_rfl, fun h => by simp at h⟩
def t_59 : TyD := { und := TypeDesc.func #[9] #[33, 4] false, size := 1, bytes := 8, zero := [Value.nilFunc], fl := false }
theorem i_59 : TabE Tryd.prog (59, t_59, false) := ⟨by kernel_rfl, fun h => by simp at h⟩
def t_60 : TyD := { und := TypeDesc.func #[61] #[4] false, size := 1, bytes := 8, zero := [Value.nilFunc], fl := false }
theorem i_60 : TabE Tryd.prog (60, t_60, false) := ⟨by kernel_rfl, fun h => by simp at h⟩
def t_61 : TyD := { und := TypeDesc.pointer 35, size := 1, bytes := 8, zero := [Value.pointer none], fl := false }
theorem i_61 : TabE Tryd.prog (61, t_61, false) := ⟨by kernel_rfl, fun h => by simp at h⟩
def t_62 : TyD := { und := TypeDesc.func #[39] #[55] false, size := 1, bytes := 8, zero := [Value.nilFunc], fl := false }
theorem i_62 : TabE Tryd.prog (62, t_62, false) := ⟨by kernel_rfl, fun h => by simp at h⟩
def t_64 : TyD := { und := TypeDesc.func #[9] #[33, 2] false, size := 1, bytes := 8, zero := [Value.nilFunc], fl := false }
theorem i_64 : TabE Tryd.prog (64, t_64, false) := ⟨by kernel_rfl, fun h => by simp at h⟩
def t_65 : TyD := { und := TypeDesc.func #[35] #[9] false, size := 1, bytes := 8, zero := [Value.nilFunc], fl := false }
theorem i_65 : TabE Tryd.prog (65, t_65, false) := ⟨by kernel_rfl, fun h => by simp at h⟩
def t_66 : TyD := { und := TypeDesc.func #[31, 31] #[4] false, size := 1, bytes := 8, zero := [Value.nilFunc], fl := false }
theorem i_66 : TabE Tryd.prog (66, t_66, false) := ⟨by kernel_rfl, fun h => by simp at h⟩
def t_67 : TyD := { und := TypeDesc.func #[29, 29] #[4] false, size := 1, bytes := 8, zero := [Value.nilFunc], fl := false }
theorem i_67 : TabE Tryd.prog (67, t_67, false) := ⟨by kernel_rfl, fun h => by simp at h⟩
def t_68 : TyD := { und := TypeDesc.func #[33, 33] #[4] false, size := 1, bytes := 8, zero := [Value.nilFunc], fl := false }
theorem i_68 : TabE Tryd.prog (68, t_68, false) := ⟨by kernel_rfl, fun h => by simp at h⟩
def t_69 : TyD := { und := TypeDesc.func #[70] #[4] false, size := 1, bytes := 8, zero := [Value.nilFunc], fl := false }
theorem i_69 : TabE Tryd.prog (69, t_69, false) := ⟨by kernel_rfl, fun h => by simp at h⟩
def t_70 : TyD := { und := TypeDesc.pointer 46, size := 1, bytes := 8, zero := [Value.pointer none], fl := false }
theorem i_70 : TabE Tryd.prog (70, t_70, false) := ⟨by kernel_rfl, fun h => by simp at h⟩
def t_71 : TyD := { und := TypeDesc.func #[2] #[9] false, size := 1, bytes := 8, zero := [Value.nilFunc], fl := false }
theorem i_71 : TabE Tryd.prog (71, t_71, false) := ⟨by kernel_rfl, fun h => by simp at h⟩
def t_72 : TyD := { und := TypeDesc.func #[9, 9, 3, 3] #[39] false, size := 1, bytes := 8, zero := [Value.nilFunc], fl := false }
theorem i_72 : TabE Tryd.prog (72, t_72, false) := ⟨by kernel_rfl, fun h => by simp at h⟩
def t_76 : TyD := { und := TypeDesc.func #[9, 3, 3] #[2, 74] false, size := 1, bytes := 8, zero := [Value.nilFunc], fl := false }
theorem i_76 : TabE Tryd.prog (76, t_76, false) := ⟨by kernel_rfl, fun h => by simp at h⟩
def t_77 : TyD := { und := TypeDesc.func #[39, 9] #[9] false, size := 1, bytes := 8, zero := [Value.nilFunc], fl := false }
theorem i_77 : TabE Tryd.prog (77, t_77, false) := ⟨by kernel_rfl, fun h => by simp at h⟩
def t_78 : TyD := { und := TypeDesc.slice 5, size := 1, bytes := 24, zero := [Value.slice none 0 0], fl := false }
theorem i_78 : TabE Tryd.prog (78, t_78, false) := ⟨by kernel_rfl, fun h => by simp at h⟩
def t_79 : TyD := { und := TypeDesc.func #[2] #[29] false, size := 1, bytes := 8, zero := [Value.nilFunc], fl := false }
theorem i_79 : TabE Tryd.prog (79, t_79, false) := ⟨by kernel_rfl, fun h => by simp at h⟩
def t_80 : TyD := { und := TypeDesc.func #[29] #[4] false, size := 1, bytes := 8, zero := [Value.nilFunc], fl := false }
theorem i_80 : TabE Tryd.prog (80, t_80, false) := ⟨by kernel_rfl, fun h => by simp at h⟩
def t_81 : TyD := { und := TypeDesc.func #[82] #[4] false, size := 1, bytes := 8, zero := [Value.nilFunc], fl := false }
theorem i_81 : TabE Tryd.prog (81, t_81, false) := ⟨by kernel_rfl, fun h => by simp at h⟩
def t_82 : TyD := { und := TypeDesc.pointer 33, size := 1, bytes := 8, zero := [Value.pointer none], fl := false }
theorem i_82 : TabE Tryd.prog (82, t_82, false) := ⟨by kernel_rfl, fun h => by simp at h⟩
def t_83 : TyD := { und := TypeDesc.func #[55] #[4] false, size := 1, bytes := 8, zero := [Value.nilFunc], fl := false }
theorem i_83 : TabE Tryd.prog (83, t_83, false) := ⟨by kernel_rfl, fun h => by simp at h⟩
def t_85 : TyD := { und := TypeDesc.func #[9] #[29, 2] false, size := 1, bytes := 8, zero := [Value.nilFunc], fl := false }
theorem i_85 : TabE Tryd.prog (85, t_85, false) := ⟨by kernel_rfl, fun h => by simp at h⟩
def t_87 : TyD := { und := TypeDesc.func #[9, 9] #[9, 9, 4] false, size := 1, bytes := 8, zero := [Value.nilFunc], fl := false }
theorem i_87 : TabE Tryd.prog (87, t_87, false) := ⟨by kernel_rfl, fun h => by simp at h⟩
def t_88 : TyD := { und := TypeDesc.func #[33] #[9] false, size := 1, bytes := 8, zero := [Value.nilFunc], fl := false }
theorem i_88 : TabE Tryd.prog (88, t_88, false) := ⟨by kernel_rfl, fun h => by simp at h⟩
def t_89 : TyD := { und := TypeDesc.func #[55] #[4] true, size := 1, bytes := 8, zero := [Value.nilFunc], fl := false }
theorem i_89 : TabE Tryd.prog (89, t_89, false) := ⟨by kernel_rfl, fun h => by simp at h⟩
def t_90 : TyD := { und := TypeDesc.func #[33] #[4] false, size := 1, bytes := 8, zero := [Value.nilFunc], fl := false }
theorem i_90 : TabE Tryd.prog (90, t_90, false) := ⟨by kernel_rfl, fun h => by simp at h⟩
def t_91 : TyD := { und := TypeDesc.func #[55] #[9] true, size := 1, bytes := 8, zero := [Value.nilFunc], fl := false }
theorem i_91 : TabE Tryd.prog (91, t_91, false) := ⟨by kernel_rfl, fun h => by simp at h⟩
def t_92 : TyD := { und := TypeDesc.func #[94] #[4] false, size := 1, bytes := 8, zero := [Value.nilFunc], fl := false }
theorem i_92 : TabE Tryd.prog (92, t_92, false) := ⟨by kernel_rfl, fun h => by simp at h⟩
def t_93 : TyD := { und := TypeDesc.struct #[{ name := "Bias", type := 44, offset := 0, embedded := false, tag := "", pkgPath := "", byteOffset := 0 }, { name := "Unit", type := 44, offset := 1, embedded := false, tag := "", pkgPath := "", byteOffset := 2 }, { name := "Up", type := 4, offset := 2, embedded := false, tag := "", pkgPath := "", byteOffset := 4 }], size := 3, bytes := 6, zero := [Value.int IntKind.i16 0, Value.int IntKind.i16 0, Value.bool false], fl := true }
theorem i_93 : TabE Tryd.prog (93, t_93, true) := ⟨by kernel_rfl, fun _ => by kernel_rfl⟩
def t_94 : TyD := { und := TypeDesc.struct #[{ name := "Bias", type := 44, offset := 0, embedded := false, tag := "", pkgPath := "", byteOffset := 0 }, { name := "Unit", type := 44, offset := 1, embedded := false, tag := "", pkgPath := "", byteOffset := 2 }, { name := "Up", type := 4, offset := 2, embedded := false, tag := "", pkgPath := "", byteOffset := 4 }], size := 3, bytes := 6, zero := [Value.int IntKind.i16 0, Value.int IntKind.i16 0, Value.bool false], fl := true }
theorem i_94 : TabE Tryd.prog (94, t_94, true) := ⟨by kernel_rfl, fun _ => by kernel_rfl⟩
def t_95 : TyD := { und := TypeDesc.func #[70] #[94] false, size := 1, bytes := 8, zero := [Value.nilFunc], fl := false }
theorem i_95 : TabE Tryd.prog (95, t_95, false) := ⟨by kernel_rfl, fun h => by simp at h⟩
def t_96 : TyD := { und := TypeDesc.func #[9, 3] #[39] false, size := 1, bytes := 8, zero := [Value.nilFunc], fl := false }
theorem i_96 : TabE Tryd.prog (96, t_96, false) := ⟨by kernel_rfl, fun h => by simp at h⟩
def t_97 : TyD := { und := TypeDesc.func #[9, 9] #[3] false, size := 1, bytes := 8, zero := [Value.nilFunc], fl := false }
theorem i_97 : TabE Tryd.prog (97, t_97, false) := ⟨by kernel_rfl, fun h => by simp at h⟩
def t_98 : TyD := { und := TypeDesc.func #[9, 9, 3, 3, 74] #[74] false, size := 1, bytes := 8, zero := [Value.nilFunc], fl := false }
theorem i_98 : TabE Tryd.prog (98, t_98, false) := ⟨by kernel_rfl, fun h => by simp at h⟩
def t_99 : TyD := { und := TypeDesc.func #[22, 100] #[4] false, size := 1, bytes := 8, zero := [Value.nilFunc], fl := false }
theorem i_99 : TabE Tryd.prog (99, t_99, false) := ⟨by kernel_rfl, fun h => by simp at h⟩
def t_100 : TyD := { und := TypeDesc.func #[46] #[4] false, size := 1, bytes := 8, zero := [Value.nilFunc], fl := false }
theorem i_100 : TabE Tryd.prog (100, t_100, false) := ⟨by kernel_rfl, fun h => by simp at h⟩
def t_101 : TyD := { und := TypeDesc.pointer 103, size := 1, bytes := 8, zero := [Value.pointer none], fl := false }
theorem i_101 : TabE Tryd.prog (101, t_101, false) := ⟨by kernel_rfl, fun h => by simp at h⟩
def t_102 : TyD := { und := TypeDesc.struct #[{ name := "addr", type := 101, offset := 0, embedded := false, tag := "", pkgPath := "strings", byteOffset := 0 }, { name := "buf", type := 78, offset := 1, embedded := false, tag := "", pkgPath := "strings", byteOffset := 8 }], size := 2, bytes := 32, zero := [Value.pointer none, Value.slice none 0 0], fl := false }
theorem i_102 : TabE Tryd.prog (102, t_102, true) := ⟨by kernel_rfl, fun _ => by kernel_rfl⟩
def t_103 : TyD := { und := TypeDesc.struct #[{ name := "addr", type := 101, offset := 0, embedded := false, tag := "", pkgPath := "strings", byteOffset := 0 }, { name := "buf", type := 78, offset := 1, embedded := false, tag := "", pkgPath := "strings", byteOffset := 8 }], size := 2, bytes := 32, zero := [Value.pointer none, Value.slice none 0 0], fl := false }
theorem i_103 : TabE Tryd.prog (103, t_103, true) := ⟨by kernel_rfl, fun _ => by kernel_rfl⟩
def t_104 : TyD := { und := TypeDesc.func #[3] #[] false, size := 1, bytes := 8, zero := [Value.nilFunc], fl := false }
theorem i_104 : TabE Tryd.prog (104, t_104, false) := ⟨by kernel_rfl, fun h => by simp at h⟩
def t_106 : TyD := { und := TypeDesc.func #[9] #[3, 74] false, size := 1, bytes := 8, zero := [Value.nilFunc], fl := false }
theorem i_106 : TabE Tryd.prog (106, t_106, false) := ⟨by kernel_rfl, fun h => by simp at h⟩
def t_107 : TyD := { und := TypeDesc.func #[] #[9] false, size := 1, bytes := 8, zero := [Value.nilFunc], fl := false }
theorem i_107 : TabE Tryd.prog (107, t_107, false) := ⟨by kernel_rfl, fun h => by simp at h⟩
def t_108 : TyD := { und := TypeDesc.func #[2, 3] #[9] false, size := 1, bytes := 8, zero := [Value.nilFunc], fl := false }
theorem i_108 : TabE Tryd.prog (108, t_108, false) := ⟨by kernel_rfl, fun h => by simp at h⟩
def t_109 : TyD := { und := TypeDesc.func #[2, 2] #[2] false, size := 1, bytes := 8, zero := [Value.nilFunc], fl := false }
theorem i_109 : TabE Tryd.prog (109, t_109, false) := ⟨by kernel_rfl, fun h => by simp at h⟩
def t_110 : TyD := { und := TypeDesc.func #[2] #[2] false, size := 1, bytes := 8, zero := [Value.nilFunc], fl := false }
theorem i_110 : TabE Tryd.prog (110, t_110, false) := ⟨by kernel_rfl, fun h => by simp at h⟩
def t_111 : TyD := { und := TypeDesc.func #[29, 29] #[2] false, size := 1, bytes := 8, zero := [Value.nilFunc], fl := false }
theorem i_111 : TabE Tryd.prog (111, t_111, false) := ⟨by kernel_rfl, fun h => by simp at h⟩
def t_112 : TyD := { und := TypeDesc.func #[29] #[9] false, size := 1, bytes := 8, zero := [Value.nilFunc], fl := false }
theorem i_112 : TabE Tryd.prog (112, t_112, false) := ⟨by kernel_rfl, fun h => by simp at h⟩
def t_113 : TyD := { und := TypeDesc.func #[55, 80] #[4] false, size := 1, bytes := 8, zero := [Value.nilFunc], fl := false }
theorem i_113 : TabE Tryd.prog (113, t_113, false) := ⟨by kernel_rfl, fun h => by simp at h⟩
def t_114 : TyD := { und := TypeDesc.func #[9] #[3] false, size := 1, bytes := 8, zero := [Value.nilFunc], fl := false }
theorem i_114 : TabE Tryd.prog (114, t_114, false) := ⟨by kernel_rfl, fun h => by simp at h⟩
def t_116 : TyD := { und := TypeDesc.func #[9] #[21, 3] false, size := 1, bytes := 8, zero := [Value.nilFunc], fl := false }
theorem i_116 : TabE Tryd.prog (116, t_116, false) := ⟨by kernel_rfl, fun h => by simp at h⟩
def t_117 : TyD := { und := TypeDesc.func #[9, 5] #[3] false, size := 1, bytes := 8, zero := [Value.nilFunc], fl := false }
theorem i_117 : TabE Tryd.prog (117, t_117, false) := ⟨by kernel_rfl, fun h => by simp at h⟩
def t_118 : TyD := { und := TypeDesc.int IntKind.i64, size := 1, bytes := 8, zero := [Value.int IntKind.i64 0], fl := true }
theorem i_118 : TabE Tryd.prog (118, t_118, false) := ⟨by kernel_rfl, fun h => by simp at h⟩
def t_119 : TyD := { und := TypeDesc.int IntKind.u64, size := 1, bytes := 8, zero := [Value.int IntKind.u64 0], fl := true }
theorem i_119 : TabE Tryd.prog (119, t_119, false) := ⟨by kernel_rfl, fun h => by simp at h⟩
def t_121 : TyD := { und := TypeDesc.func #[9, 3, 3] #[119, 74] false, size := 1, bytes := 8, zero := [Value.nilFunc], fl := false }
theorem i_121 : TabE Tryd.prog (121, t_121, false) := ⟨by kernel_rfl, fun h => by simp at h⟩
def t_122 : TyD := { und := TypeDesc.int IntKind.u64, size := 1, bytes := 8, zero := [Value.int IntKind.u64 0], fl := true }
theorem i_122 : TabE Tryd.prog (122, t_122, false) := ⟨by kernel_rfl, fun h => by simp at h⟩
def t_123 : TyD := { und := TypeDesc.pointer 134, size := 1, bytes := 8, zero := [Value.pointer none], fl := false }
theorem i_123 : TabE Tryd.prog (123, t_123, false) := ⟨by kernel_rfl, fun h => by simp at h⟩
def t_124 : TyD := { und := TypeDesc.func #[9, 9] #[123] false, size := 1, bytes := 8, zero := [Value.nilFunc], fl := false }
theorem i_124 : TabE Tryd.prog (124, t_124, false) := ⟨by kernel_rfl, fun h => by simp at h⟩
def t_125 : TyD := { und := TypeDesc.func #[9, 9, 3] #[123] false, size := 1, bytes := 8, zero := [Value.nilFunc], fl := false }
theorem i_125 : TabE Tryd.prog (125, t_125, false) := ⟨by kernel_rfl, fun h => by simp at h⟩
def t_126 : TyD := { und := TypeDesc.func #[22, 100] #[3] false, size := 1, bytes := 8, zero := [Value.nilFunc], fl := false }
theorem i_126 : TabE Tryd.prog (126, t_126, false) := ⟨by kernel_rfl, fun h => by simp at h⟩
def t_127 : TyD := { und := TypeDesc.func #[] #[94] false, size := 1, bytes := 8, zero := [Value.nilFunc], fl := false }
theorem i_127 : TabE Tryd.prog (127, t_127, false) := ⟨by kernel_rfl, fun h => by simp at h⟩
def t_128 : TyD := { und := TypeDesc.pointer 5, size := 1, bytes := 8, zero := [Value.pointer none], fl := false }
theorem i_128 : TabE Tryd.prog (128, t_128, false) := ⟨by kernel_rfl, fun h => by simp at h⟩
def t_129 : TyD := { und := TypeDesc.func #[55, 80] #[3] false, size := 1, bytes := 8, zero := [Value.nilFunc], fl := false }
theorem i_129 : TabE Tryd.prog (129, t_129, false) := ⟨by kernel_rfl, fun h => by simp at h⟩
def t_130 : TyD := { und := TypeDesc.func #[3] #[3] false, size := 1, bytes := 8, zero := [Value.nilFunc], fl := false }
theorem i_130 : TabE Tryd.prog (130, t_130, false) := ⟨by kernel_rfl, fun h => by simp at h⟩
def t_131 : TyD := { und := TypeDesc.func #[5] #[5] false, size := 1, bytes := 8, zero := [Value.nilFunc], fl := false }
theorem i_131 : TabE Tryd.prog (131, t_131, false) := ⟨by kernel_rfl, fun h => by simp at h⟩
def t_132 : TyD := { und := TypeDesc.func #[9] #[9] false, size := 1, bytes := 8, zero := [Value.nilFunc], fl := false }
theorem i_132 : TabE Tryd.prog (132, t_132, false) := ⟨by kernel_rfl, fun h => by simp at h⟩
def t_133 : TyD := { und := TypeDesc.struct #[{ name := "Func", type := 9, offset := 0, embedded := false, tag := "", pkgPath := "", byteOffset := 0 }, { name := "Num", type := 9, offset := 1, embedded := false, tag := "", pkgPath := "", byteOffset := 16 }, { name := "Err", type := 74, offset := 2, embedded := false, tag := "", pkgPath := "", byteOffset := 32 }], size := 3, bytes := 48, zero := [Value.string ⟨#[]⟩, Value.string ⟨#[]⟩, Value.nilIface], fl := false }
theorem i_133 : TabE Tryd.prog (133, t_133, false) := ⟨by kernel_rfl, fun h => by simp at h⟩
def t_134 : TyD := { und := TypeDesc.struct #[{ name := "Func", type := 9, offset := 0, embedded := false, tag := "", pkgPath := "", byteOffset := 0 }, { name := "Num", type := 9, offset := 1, embedded := false, tag := "", pkgPath := "", byteOffset := 16 }, { name := "Err", type := 74, offset := 2, embedded := false, tag := "", pkgPath := "", byteOffset := 32 }], size := 3, bytes := 48, zero := [Value.string ⟨#[]⟩, Value.string ⟨#[]⟩, Value.nilIface], fl := false }
theorem i_134 : TabE Tryd.prog (134, t_134, false) := ⟨by kernel_rfl, fun h => by simp at h⟩
def t_135 : TyD := { und := TypeDesc.func #[9] #[74] false, size := 1, bytes := 8, zero := [Value.nilFunc], fl := false }
theorem i_135 : TabE Tryd.prog (135, t_135, false) := ⟨by kernel_rfl, fun h => by simp at h⟩
def t_136 : TyD := { und := TypeDesc.unsafePointer, size := 1, bytes := 8, zero := [Value.pointer none], fl := false }
theorem i_136 : TabE Tryd.prog (136, t_136, false) := ⟨by kernel_rfl, fun h => by simp at h⟩
def t_137 : TyD := { und := TypeDesc.func #[136] #[136] false, size := 1, bytes := 8, zero := [Value.nilFunc], fl := false }
theorem i_137 : TabE Tryd.prog (137, t_137, false) := ⟨by kernel_rfl, fun h => by simp at h⟩
def t_138 : TyD := { und := TypeDesc.func #[3] #[78] false, size := 1, bytes := 8, zero := [Value.nilFunc], fl := false }
theorem i_138 : TabE Tryd.prog (138, t_138, false) := ⟨by kernel_rfl, fun h => by simp at h⟩
def t_139 : TyD := { und := TypeDesc.array 24 5, size := 24, bytes := 24, zero := [Value.int IntKind.u8 0, Value.int IntKind.u8 0, Value.int IntKind.u8 0, Value.int IntKind.u8 0, Value.int IntKind.u8 0, Value.int IntKind.u8 0, Value.int IntKind.u8 0, Value.int IntKind.u8 0, Value.int IntKind.u8 0, Value.int IntKind.u8 0, Value.int IntKind.u8 0, Value.int IntKind.u8 0, Value.int IntKind.u8 0, Value.int IntKind.u8 0, Value.int IntKind.u8 0, Value.int IntKind.u8 0, Value.int IntKind.u8 0, Value.int IntKind.u8 0, Value.int IntKind.u8 0, Value.int IntKind.u8 0, Value.int IntKind.u8 0, Value.int IntKind.u8 0, Value.int IntKind.u8 0, Value.int IntKind.u8 0], fl := true }
theorem i_139 : TabE Tryd.prog (139, t_139, false) := ⟨by kernel_rfl, fun h => by simp at h⟩
def t_140 : TyD := { und := TypeDesc.func #[119] #[3] false, size := 1, bytes := 8, zero := [Value.nilFunc], fl := false }
theorem i_140 : TabE Tryd.prog (140, t_140, false) := ⟨by kernel_rfl, fun h => by simp at h⟩
def t_141 : TyD := { und := TypeDesc.func #[78, 119] #[] false, size := 1, bytes := 8, zero := [Value.nilFunc], fl := false }
theorem i_141 : TabE Tryd.prog (141, t_141, false) := ⟨by kernel_rfl, fun h => by simp at h⟩
def t_143 : TyD := { und := TypeDesc.func #[78, 119, 3, 4, 4] #[78, 9] false, size := 1, bytes := 8, zero := [Value.nilFunc], fl := false }
theorem i_143 : TabE Tryd.prog (143, t_143, false) := ⟨by kernel_rfl, fun h => by simp at h⟩
def t_144 : TyD := { und := TypeDesc.array 256 5, size := 256, bytes := 256, zero := [Value.int IntKind.u8 0, Value.int IntKind.u8 0, Value.int IntKind.u8 0, Value.int IntKind.u8 0, Value.int IntKind.u8 0, Value.int IntKind.u8 0, Value.int IntKind.u8 0, Value.int IntKind.u8 0, Value.int IntKind.u8 0, Value.int IntKind.u8 0, Value.int IntKind.u8 0, Value.int IntKind.u8 0, Value.int IntKind.u8 0, Value.int IntKind.u8 0, Value.int IntKind.u8 0, Value.int IntKind.u8 0, Value.int IntKind.u8 0, Value.int IntKind.u8 0, Value.int IntKind.u8 0, Value.int IntKind.u8 0, Value.int IntKind.u8 0, Value.int IntKind.u8 0, Value.int IntKind.u8 0, Value.int IntKind.u8 0, Value.int IntKind.u8 0, Value.int IntKind.u8 0, Value.int IntKind.u8 0, Value.int IntKind.u8 0, Value.int IntKind.u8 0, Value.int IntKind.u8 0, Value.int IntKind.u8 0, Value.int IntKind.u8 0, Value.int IntKind.u8 0, Value.int IntKind.u8 0, Value.int IntKind.u8 0, Value.int IntKind.u8 0, Value.int IntKind.u8 0, Value.int IntKind.u8 0, Value.int IntKind.u8 0, Value.int IntKind.u8 0, Value.int IntKind.u8 0, Value.int IntKind.u8 0, Value.int IntKind.u8 0, Value.int IntKind.u8 0, Value.int IntKind.u8 0, Value.int IntKind.u8 0, Value.int IntKind.u8 0, Value.int IntKind.u8 0, Value.int IntKind.u8 0, Value.int IntKind.u8 0, Value.int IntKind.u8 0, Value.int IntKind.u8 0, Value.int IntKind.u8 0, Value.int IntKind.u8 0, Value.int IntKind.u8 0, Value.int IntKind.u8 0, Value.int IntKind.u8 0, Value.int IntKind.u8 0, Value.int IntKind.u8 0, Value.int IntKind.u8 0, Value.int IntKind.u8 0, Value.int IntKind.u8 0, Value.int IntKind.u8 0, Value.int IntKind.u8 0, Value.int IntKind.u8 0, Value.int IntKind.u8 0, Value.int IntKind.u8 0, Value.int IntKind.u8 0, Value.int IntKind.u8 0, Value.int IntKind.u8 0, Value.int IntKind.u8 0, Value.int IntKind.u8 0, Value.int IntKind.u8 0, Value.int IntKind.u8 0, Value.int IntKind.u8 0, Value.int IntKind.u8 0, Value.int IntKind.u8 0, Value.int IntKind.u8 0, Value.int IntKind.u8 0, Value.int IntKind.u8 0, Value.int IntKind.u8 0, Value.int IntKind.u8 0, Value.int IntKind.u8 0, Value.int IntKind.u8 0, Value.int IntKind.u8 0, Value.int IntKind.u8 0, Value.int IntKind.u8 0, Value.int IntKind.u8 0, Value.int IntKind.u8 0, Value.int IntKind.u8 0, Value.int IntKind.u8 0, Value.int IntKind.u8 0, Value.int IntKind.u8 0, Value.int IntKind.u8 0, Value.int IntKind.u8 0, Value.int IntKind.u8 0, Value.int IntKind.u8 0, Value.int IntKind.u8 0, Value.int IntKind.u8 0, Value.int IntKind.u8 0, Value.int IntKind.u8 0, Value.int IntKind.u8 0, Value.int IntKind.u8 0, Value.int IntKind.u8 0, Value.int IntKind.u8 0, Value.int IntKind.u8 0, Value.int IntKind.u8 0, Value.int IntKind.u8 0, Value.int IntKind.u8 0, Value.int IntKind.u8 0, Value.int IntKind.u8 0, Value.int IntKind.u8 0, Value.int IntKind.u8 0, Value.int IntKind.u8 0, Value.int IntKind.u8 0, Value.int IntKind.u8 0, Value.int IntKind.u8 0, Value.int IntKind.u8 0, Value.int IntKind.u8 0, Value.int IntKind.u8 0, Value.int IntKind.u8 0, Value.int IntKind.u8 0, Value.int IntKind.u8 0, Value.int IntKind.u8 0, Value.int IntKind.u8 0, Value.int IntKind.u8 0, Value.int IntKind.u8 0, Value.int IntKind.u8 0, Value.int IntKind.u8 0, Value.int IntKind.u8 0, Value.int IntKind.u8 0, Value.int IntKind.u8 0, Value.int IntKind.u8 0, Value.int IntKind.u8 0, Value.int IntKind.u8 0, Value.int IntKind.u8 0, Value.int IntKind.u8 0, Value.int IntKind.u8 0, Value.int IntKind.u8 0, Value.int IntKind.u8 0, Value.int IntKind.u8 0, Value.int IntKind.u8 0, Value.int IntKind.u8 0, Value.int IntKind.u8 0, Value.int IntKind.u8 0, Value.int IntKind.u8 0, Value.int IntKind.u8 0, Value.int IntKind.u8 0, Value.int IntKind.u8 0, Value.int IntKind.u8 0, Value.int IntKind.u8 0, Value.int IntKind.u8 0, Value.int IntKind.u8 0, Value.int IntKind.u8 0, Value.int IntKind.u8 0, Value.int IntKind.u8 0, Value.int IntKind.u8 0, Value.int IntKind.u8 0, Value.int IntKind.u8 0, Value.int IntKind.u8 0, Value.int IntKind.u8 0, Value.int IntKind.u8 0, Value.int IntKind.u8 0, Value.int IntKind.u8 0, Value.int IntKind.u8 0, Value.int IntKind.u8 0, Value.int IntKind.u8 0, Value.int IntKind.u8 0, Value.int IntKind.u8 0, Value.int IntKind.u8 0, Value.int IntKind.u8 0, Value.int IntKind.u8 0, Value.int IntKind.u8 0, Value.int IntKind.u8 0, Value.int IntKind.u8 0, Value.int IntKind.u8 0, Value.int IntKind.u8 0, Value.int IntKind.u8 0, Value.int IntKind.u8 0, Value.int IntKind.u8 0, Value.int IntKind.u8 0, Value.int IntKind.u8 0, Value.int IntKind.u8 0, Value.int IntKind.u8 0, Value.int IntKind.u8 0, Value.int IntKind.u8 0, Value.int IntKind.u8 0, Value.int IntKind.u8 0, Value.int IntKind.u8 0, Value.int IntKind.u8 0, Value.int IntKind.u8 0, Value.int IntKind.u8 0, Value.int IntKind.u8 0, Value.int IntKind.u8 0, Value.int IntKind.u8 0, Value.int IntKind.u8 0, Value.int IntKind.u8 0, Value.int IntKind.u8 0, Value.int IntKind.u8 0, Value.int IntKind.u8 0, Value.int IntKind.u8 0, Value.int IntKind.u8 0, Value.int IntKind.u8 0, Value.int IntKind.u8 0, Value.int IntKind.u8 0, Value.int IntKind.u8 0, Value.int IntKind.u8 0, Value.int IntKind.u8 0, Value.int IntKind.u8 0, Value.int IntKind.u8 0, Value.int IntKind.u8 0, Value.int IntKind.u8 0, Value.int IntKind.u8 0, Value.int IntKind.u8 0, Value.int IntKind.u8 0, Value.int IntKind.u8 0, Value.int IntKind.u8 0, Value.int IntKind.u8 0, Value.int IntKind.u8 0, Value.int IntKind.u8 0, Value.int IntKind.u8 0, Value.int IntKind.u8 0, Value.int IntKind.u8 0, Value.int IntKind.u8 0, Value.int IntKind.u8 0, Value.int IntKind.u8 0, Value.int IntKind.u8 0, Value.int IntKind.u8 0, Value.int IntKind.u8 0, Value.int IntKind.u8 0, Value.int IntKind.u8 0, Value.int IntKind.u8 0, Value.int IntKind.u8 0, Value.int IntKind.u8 0, Value.int IntKind.u8 0, Value.int IntKind.u8 0, Value.int IntKind.u8 0, Value.int IntKind.u8 0, Value.int IntKind.u8 0, Value.int IntKind.u8 0, Value.int IntKind.u8 0, Value.int IntKind.u8 0, Value.int IntKind.u8 0, Value.int IntKind.u8 0, Value.int IntKind.u8 0, Value.int IntKind.u8 0, Value.int IntKind.u8 0, Value.int IntKind.u8 0, Value.int IntKind.u8 0, Value.int IntKind.u8 0, Value.int IntKind.u8 0, Value.int IntKind.u8 0, Value.int IntKind.u8 0, Value.int IntKind.u8 0, Value.int IntKind.u8 0, Value.int IntKind.u8 0], fl := true }
theorem i_144 : TabE Tryd.prog (144, t_144, false) := ⟨by kernel_rfl, fun h => by simp at h⟩
def t_145 : TyD := { und := TypeDesc.struct #[{ name := "lo", type := 5, offset := 0, embedded := false, tag := "", pkgPath := "unicode/utf8", byteOffset := 0 }, { name := "hi", type := 5, offset := 1, embedded := false, tag := "", pkgPath := "unicode/utf8", byteOffset := 1 }], size := 2, bytes := 2, zero := [Value.int IntKind.u8 0, Value.int IntKind.u8 0], fl := true }
theorem i_145 : TabE Tryd.prog (145, t_145, true) := ⟨by kernel_rfl, fun _ => by kernel_rfl⟩
def t_146 : TyD := { und := TypeDesc.struct #[{ name := "lo", type := 5, offset := 0, embedded := false, tag := "", pkgPath := "unicode/utf8", byteOffset := 0 }, { name := "hi", type := 5, offset := 1, embedded := false, tag := "", pkgPath := "unicode/utf8", byteOffset := 1 }], size := 2, bytes := 2, zero := [Value.int IntKind.u8 0, Value.int IntKind.u8 0], fl := true }
theorem i_146 : TabE Tryd.prog (146, t_146, true) := ⟨by kernel_rfl, fun _ => by kernel_rfl⟩
def t_147 : TyD := { und := TypeDesc.array 16 146, size := 32, bytes := 32, zero := [Value.int IntKind.u8 0, Value.int IntKind.u8 0, Value.int IntKind.u8 0, Value.int IntKind.u8 0, Value.int IntKind.u8 0, Value.int IntKind.u8 0, Value.int IntKind.u8 0, Value.int IntKind.u8 0, Value.int IntKind.u8 0, Value.int IntKind.u8 0, Value.int IntKind.u8 0, Value.int IntKind.u8 0, Value.int IntKind.u8 0, Value.int IntKind.u8 0, Value.int IntKind.u8 0, Value.int IntKind.u8 0, Value.int IntKind.u8 0, Value.int IntKind.u8 0, Value.int IntKind.u8 0, Value.int IntKind.u8 0, Value.int IntKind.u8 0, Value.int IntKind.u8 0, Value.int IntKind.u8 0, Value.int IntKind.u8 0, Value.int IntKind.u8 0, Value.int IntKind.u8 0, Value.int IntKind.u8 0, Value.int IntKind.u8 0, Value.int IntKind.u8 0, Value.int IntKind.u8 0, Value.int IntKind.u8 0, Value.int IntKind.u8 0], fl := true }
theorem i_147 : TabE Tryd.prog (147, t_147, false) := ⟨by kernel_rfl, fun h => by simp at h⟩
def t_148 : TyD := { und := TypeDesc.int IntKind.u32, size := 1, bytes := 4, zero := [Value.int IntKind.u32 0], fl := true }
theorem i_148 : TabE Tryd.prog (148, t_148, false) := ⟨by kernel_rfl, fun h => by simp at h⟩
def t_150 : TyD := { und := TypeDesc.func #[9] #[148, 148] false, size := 1, bytes := 8, zero := [Value.nilFunc], fl := false }
theorem i_150 : TabE Tryd.prog (150, t_150, false) := ⟨by kernel_rfl, fun h => by simp at h⟩
def t_151 : TyD := { und := TypeDesc.pointer 153, size := 1, bytes := 8, zero := [Value.pointer none], fl := false }
theorem i_151 : TabE Tryd.prog (151, t_151, false) := ⟨by kernel_rfl, fun h => by simp at h⟩
def t_152 : TyD := { und := TypeDesc.struct #[{ name := "s", type := 9, offset := 0, embedded := false, tag := "", pkgPath := "errors", byteOffset := 0 }], size := 1, bytes := 16, zero := [Value.string ⟨#[]⟩], fl := true }
theorem i_152 : TabE Tryd.prog (152, t_152, true) := ⟨by kernel_rfl, fun _ => by kernel_rfl⟩
def t_153 : TyD := { und := TypeDesc.struct #[{ name := "s", type := 9, offset := 0, embedded := false, tag := "", pkgPath := "errors", byteOffset := 0 }], size := 1, bytes := 16, zero := [Value.string ⟨#[]⟩], fl := true }
theorem i_153 : TabE Tryd.prog (153, t_153, true) := ⟨by kernel_rfl, fun _ => by kernel_rfl⟩
def t_154 : TyD := { und := TypeDesc.func #[4] #[3] false, size := 1, bytes := 8, zero := [Value.nilFunc], fl := false }
theorem i_154 : TabE Tryd.prog (154, t_154, false) := ⟨by kernel_rfl, fun h => by simp at h⟩
def t_155 : TyD := { und := TypeDesc.array 20 119, size := 20, bytes := 160, zero := [Value.int IntKind.u64 0, Value.int IntKind.u64 0, Value.int IntKind.u64 0, Value.int IntKind.u64 0, Value.int IntKind.u64 0, Value.int IntKind.u64 0, Value.int IntKind.u64 0, Value.int IntKind.u64 0, Value.int IntKind.u64 0, Value.int IntKind.u64 0, Value.int IntKind.u64 0, Value.int IntKind.u64 0, Value.int IntKind.u64 0, Value.int IntKind.u64 0, Value.int IntKind.u64 0, Value.int IntKind.u64 0, Value.int IntKind.u64 0, Value.int IntKind.u64 0, Value.int IntKind.u64 0, Value.int IntKind.u64 0], fl := true }
theorem i_155 : TabE Tryd.prog (155, t_155, false) := ⟨by kernel_rfl, fun h => by simp at h⟩
def t_156 : TyD := { und := TypeDesc.array 65 5, size := 65, bytes := 65, zero := [Value.int IntKind.u8 0, Value.int IntKind.u8 0, Value.int IntKind.u8 0, Value.int IntKind.u8 0, Value.int IntKind.u8 0, Value.int IntKind.u8 0, Value.int IntKind.u8 0, Value.int IntKind.u8 0, Value.int IntKind.u8 0, Value.int IntKind.u8 0, Value.int IntKind.u8 0, Value.int IntKind.u8 0, Value.int IntKind.u8 0, Value.int IntKind.u8 0, Value.int IntKind.u8 0, Value.int IntKind.u8 0, Value.int IntKind.u8 0, Value.int IntKind.u8 0, Value.int IntKind.u8 0, Value.int IntKind.u8 0, Value.int IntKind.u8 0, Value.int IntKind.u8 0, Value.int IntKind.u8 0, Value.int IntKind.u8 0, Value.int IntKind.u8 0, Value.int IntKind.u8 0, Value.int IntKind.u8 0, Value.int IntKind.u8 0, Value.int IntKind.u8 0, Value.int IntKind.u8 0, Value.int IntKind.u8 0, Value.int IntKind.u8 0, Value.int IntKind.u8 0, Value.int IntKind.u8 0, Value.int IntKind.u8 0, Value.int IntKind.u8 0, Value.int IntKind.u8 0, Value.int IntKind.u8 0, Value.int IntKind.u8 0, Value.int IntKind.u8 0, Value.int IntKind.u8 0, Value.int IntKind.u8 0, Value.int IntKind.u8 0, Value.int IntKind.u8 0, Value.int IntKind.u8 0, Value.int IntKind.u8 0, Value.int IntKind.u8 0, Value.int IntKind.u8 0, Value.int IntKind.u8 0, Value.int IntKind.u8 0, Value.int IntKind.u8 0, Value.int IntKind.u8 0, Value.int IntKind.u8 0, Value.int IntKind.u8 0, Value.int IntKind.u8 0, Value.int IntKind.u8 0, Value.int IntKind.u8 0, Value.int IntKind.u8 0, Value.int IntKind.u8 0, Value.int IntKind.u8 0, Value.int IntKind.u8 0, Value.int IntKind.u8 0, Value.int IntKind.u8 0, Value.int IntKind.u8 0, Value.int IntKind.u8 0], fl := true }
theorem i_156 : TabE Tryd.prog (156, t_156, false) := ⟨by kernel_rfl, fun h => by simp at h⟩
def t_157 : TyD := { und := TypeDesc.func #[3] #[4] false, size := 1, bytes := 8, zero := [Value.nilFunc], fl := false }
theorem i_157 : TabE Tryd.prog (157, t_157, false) := ⟨by kernel_rfl, fun h => by simp at h⟩
def t_158 : TyD := { und := TypeDesc.func #[122] #[3] false, size := 1, bytes := 8, zero := [Value.nilFunc], fl := false }
theorem i_158 : TabE Tryd.prog (158, t_158, false) := ⟨by kernel_rfl, fun h => by simp at h⟩
def t_159 : TyD := { und := TypeDesc.func #[148] #[3] false, size := 1, bytes := 8, zero := [Value.nilFunc], fl := false }
theorem i_159 : TabE Tryd.prog (159, t_159, false) := ⟨by kernel_rfl, fun h => by simp at h⟩
def t_160 : TyD := { und := TypeDesc.array 32 5, size := 32, bytes := 32, zero := [Value.int IntKind.u8 0, Value.int IntKind.u8 0, Value.int IntKind.u8 0, Value.int IntKind.u8 0, Value.int IntKind.u8 0, Value.int IntKind.u8 0, Value.int IntKind.u8 0, Value.int IntKind.u8 0, Value.int IntKind.u8 0, Value.int IntKind.u8 0, Value.int IntKind.u8 0, Value.int IntKind.u8 0, Value.int IntKind.u8 0, Value.int IntKind.u8 0, Value.int IntKind.u8 0, Value.int IntKind.u8 0, Value.int IntKind.u8 0, Value.int IntKind.u8 0, Value.int IntKind.u8 0, Value.int IntKind.u8 0, Value.int IntKind.u8 0, Value.int IntKind.u8 0, Value.int IntKind.u8 0, Value.int IntKind.u8 0, Value.int IntKind.u8 0, Value.int IntKind.u8 0, Value.int IntKind.u8 0, Value.int IntKind.u8 0, Value.int IntKind.u8 0, Value.int IntKind.u8 0, Value.int IntKind.u8 0, Value.int IntKind.u8 0], fl := true }
theorem i_160 : TabE Tryd.prog (160, t_160, false) := ⟨by kernel_rfl, fun h => by simp at h⟩
def t_161 : TyD := { und := TypeDesc.array 64 5, size := 64, bytes := 64, zero := [Value.int IntKind.u8 0, Value.int IntKind.u8 0, Value.int IntKind.u8 0, Value.int IntKind.u8 0, Value.int IntKind.u8 0, Value.int IntKind.u8 0, Value.int IntKind.u8 0, Value.int IntKind.u8 0, Value.int IntKind.u8 0, Value.int IntKind.u8 0, Value.int IntKind.u8 0, Value.int IntKind.u8 0, Value.int IntKind.u8 0, Value.int IntKind.u8 0, Value.int IntKind.u8 0, Value.int IntKind.u8 0, Value.int IntKind.u8 0, Value.int IntKind.u8 0, Value.int IntKind.u8 0, Value.int IntKind.u8 0, Value.int IntKind.u8 0, Value.int IntKind.u8 0, Value.int IntKind.u8 0, Value.int IntKind.u8 0, Value.int IntKind.u8 0, Value.int IntKind.u8 0, Value.int IntKind.u8 0, Value.int IntKind.u8 0, Value.int IntKind.u8 0, Value.int IntKind.u8 0, Value.int IntKind.u8 0, Value.int IntKind.u8 0, Value.int IntKind.u8 0, Value.int IntKind.u8 0, Value.int IntKind.u8 0, Value.int IntKind.u8 0, Value.int IntKind.u8 0, Value.int IntKind.u8 0, Value.int IntKind.u8 0, Value.int IntKind.u8 0, Value.int IntKind.u8 0, Value.int IntKind.u8 0, Value.int IntKind.u8 0, Value.int IntKind.u8 0, Value.int IntKind.u8 0, Value.int IntKind.u8 0, Value.int IntKind.u8 0, Value.int IntKind.u8 0, Value.int IntKind.u8 0, Value.int IntKind.u8 0, Value.int IntKind.u8 0, Value.int IntKind.u8 0, Value.int IntKind.u8 0, Value.int IntKind.u8 0, Value.int IntKind.u8 0, Value.int IntKind.u8 0, Value.int IntKind.u8 0, Value.int IntKind.u8 0, Value.int IntKind.u8 0, Value.int IntKind.u8 0, Value.int IntKind.u8 0, Value.int IntKind.u8 0, Value.int IntKind.u8 0, Value.int IntKind.u8 0], fl := true }
theorem i_161 : TabE Tryd.prog (161, t_161, false) := ⟨by kernel_rfl, fun h => by simp at h⟩
def t_162 : TyD := { und := TypeDesc.struct #[{ name := "_interface", type := 17, offset := 0, embedded := false, tag := "", pkgPath := "runtime", byteOffset := 0 }, { name := "concrete", type := 17, offset := 1, embedded := false, tag := "", pkgPath := "runtime", byteOffset := 8 }, { name := "asserted", type := 17, offset := 2, embedded := false, tag := "", pkgPath := "runtime", byteOffset := 16 }, { name := "missingMethod", type := 9, offset := 3, embedded := false, tag := "", pkgPath := "runtime", byteOffset := 24 }], size := 4, bytes := 40, zero := [Value.pointer none, Value.pointer none, Value.pointer none, Value.string ⟨#[]⟩], fl := false }
theorem i_162 : TabE Tryd.prog (162, t_162, false) := ⟨by kernel_rfl, fun h => by simp at h⟩
def t_163 : TyD := { und := TypeDesc.struct #[{ name := "_interface", type := 17, offset := 0, embedded := false, tag := "", pkgPath := "runtime", byteOffset := 0 }, { name := "concrete", type := 17, offset := 1, embedded := false, tag := "", pkgPath := "runtime", byteOffset := 8 }, { name := "asserted", type := 17, offset := 2, embedded := false, tag := "", pkgPath := "runtime", byteOffset := 16 }, { name := "missingMethod", type := 9, offset := 3, embedded := false, tag := "", pkgPath := "runtime", byteOffset := 24 }], size := 4, bytes := 40, zero := [Value.pointer none, Value.pointer none, Value.pointer none, Value.string ⟨#[]⟩], fl := false }
theorem i_163 : TabE Tryd.prog (163, t_163, false) := ⟨by kernel_rfl, fun h => by simp at h⟩
def t_164 : TyD := { und := TypeDesc.array 0 16, size := 0, bytes := 0, zero := [], fl := false }
theorem i_164 : TabE Tryd.prog (164, t_164, false) := ⟨by kernel_rfl, fun h => by simp at h⟩
def t_165 : TyD := { und := TypeDesc.struct #[{ name := "_", type := 164, offset := 0, embedded := false, tag := "", pkgPath := "runtime", byteOffset := 0 }], size := 0, bytes := 0, zero := [], fl := false }
theorem i_165 : TabE Tryd.prog (165, t_165, false) := ⟨by kernel_rfl, fun h => by simp at h⟩
def t_166 : TyD := { und := TypeDesc.struct #[{ name := "_", type := 164, offset := 0, embedded := false, tag := "", pkgPath := "runtime", byteOffset := 0 }], size := 0, bytes := 0, zero := [], fl := false }
theorem i_166 : TabE Tryd.prog (166, t_166, false) := ⟨by kernel_rfl, fun h => by simp at h⟩
def t_167 : TyD := { und := TypeDesc.func #[] #[3] false, size := 1, bytes := 8, zero := [Value.nilFunc], fl := false }
theorem i_167 : TabE Tryd.prog (167, t_167, false) := ⟨by kernel_rfl, fun h => by simp at h⟩
def t_168 : TyD := { und := TypeDesc.int IntKind.u8, size := 1, bytes := 1, zero := [Value.int IntKind.u8 0], fl := true }
theorem i_168 : TabE Tryd.prog (168, t_168, false) := ⟨by kernel_rfl, fun h => by simp at h⟩
def t_169 : TyD := { und := TypeDesc.int IntKind.u8, size := 1, bytes := 1, zero := [Value.int IntKind.u8 0], fl := true }
theorem i_169 : TabE Tryd.prog (169, t_169, false) := ⟨by kernel_rfl, fun h => by simp at h⟩
def t_170 : TyD := { und := TypeDesc.func #[136, 136] #[4] false, size := 1, bytes := 8, zero := [Value.nilFunc], fl := false }
theorem i_170 : TabE Tryd.prog (170, t_170, false) := ⟨by kernel_rfl, fun h => by simp at h⟩
def t_171 : TyD := { und := TypeDesc.int IntKind.i32, size := 1, bytes := 4, zero := [Value.int IntKind.i32 0], fl := true }
theorem i_171 : TabE Tryd.prog (171, t_171, false) := ⟨by kernel_rfl, fun h => by simp at h⟩
def t_172 : TyD := { und := TypeDesc.int IntKind.i32, size := 1, bytes := 4, zero := [Value.int IntKind.i32 0], fl := true }
theorem i_172 : TabE Tryd.prog (172, t_172, false) := ⟨by kernel_rfl, fun h => by simp at h⟩
def t_173 : TyD := { und := TypeDesc.struct #[{ name := "Size_", type := 12, offset := 0, embedded := false, tag := "", pkgPath := "", byteOffset := 0 }, { name := "PtrBytes", type := 12, offset := 1, embedded := false, tag := "", pkgPath := "", byteOffset := 8 }, { name := "Hash", type := 148, offset := 2, embedded := false, tag := "", pkgPath := "", byteOffset := 16 }, { name := "TFlag", type := 168, offset := 3, embedded := false, tag := "", pkgPath := "", byteOffset := 20 }, { name := "Align_", type := 5, offset := 4, embedded := false, tag := "", pkgPath := "", byteOffset := 21 }, { name := "FieldAlign_", type := 5, offset := 5, embedded := false, tag := "", pkgPath := "", byteOffset := 22 }, { name := "Kind_", type := 169, offset := 6, embedded := false, tag := "", pkgPath := "", byteOffset := 23 }, { name := "Equal", type := 170, offset := 7, embedded := false, tag := "", pkgPath := "", byteOffset := 24 }, { name := "GCData", type := 128, offset := 8, embedded := false, tag := "", pkgPath := "", byteOffset := 32 }, { name := "Str", type := 171, offset := 9, embedded := false, tag := "", pkgPath := "", byteOffset := 40 }, { name := "PtrToThis", type := 172, offset := 10, embedded := false, tag := "", pkgPath := "", byteOffset := 44 }], size := 11, bytes := 48, zero := [Value.int IntKind.u64 0, Value.int IntKind.u64 0, Value.int IntKind.u32 0, Value.int IntKind.u8 0, Value.int IntKind.u8 0, Value.int IntKind.u8 0, Value.int IntKind.u8 0, Value.nilFunc, Value.pointer none, Value.int IntKind.i32 0, Value.int IntKind.i32 0], fl := false }
theorem i_173 : TabE Tryd.prog (173, t_173, false) := ⟨by kernel_rfl, fun h => by simp at h⟩
def t_174 : TyD := { und := TypeDesc.struct #[{ name := "Size_", type := 12, offset := 0, embedded := false, tag := "", pkgPath := "", byteOffset := 0 }, { name := "PtrBytes", type := 12, offset := 1, embedded := false, tag := "", pkgPath := "", byteOffset := 8 }, { name := "Hash", type := 148, offset := 2, embedded := false, tag := "", pkgPath := "", byteOffset := 16 }, { name := "TFlag", type := 168, offset := 3, embedded := false, tag := "", pkgPath := "", byteOffset := 20 }, { name := "Align_", type := 5, offset := 4, embedded := false, tag := "", pkgPath := "", byteOffset := 21 }, { name := "FieldAlign_", type := 5, offset := 5, embedded := false, tag := "", pkgPath := "", byteOffset := 22 }, { name := "Kind_", type := 169, offset := 6, embedded := false, tag := "", pkgPath := "", byteOffset := 23 }, { name := "Equal", type := 170, offset := 7, embedded := false, tag := "", pkgPath := "", byteOffset := 24 }, { name := "GCData", type := 128, offset := 8, embedded := false, tag := "", pkgPath := "", byteOffset := 32 }, { name := "Str", type := 171, offset := 9, embedded := false, tag := "", pkgPath := "", byteOffset := 40 }, { name := "PtrToThis", type := 172, offset := 10, embedded := false, tag := "", pkgPath := "", byteOffset := 44 }], size := 11, bytes := 48, zero := [Value.int IntKind.u64 0, Value.int IntKind.u64 0, Value.int IntKind.u32 0, Value.int IntKind.u8 0, Value.int IntKind.u8 0, Value.int IntKind.u8 0, Value.int IntKind.u8 0, Value.nilFunc, Value.pointer none, Value.int IntKind.i32 0, Value.int IntKind.i32 0], fl := false }
theorem i_174 : TabE Tryd.prog (174, t_174, false) := ⟨by kernel_rfl, fun h => by simp at h⟩
def t_175 : TyD := { und := TypeDesc.func #[29] #[2, 4] false, size := 1, bytes := 8, zero := [Value.nilFunc], fl := false }
theorem i_175 : TabE Tryd.prog (175, t_175, false) := ⟨by kernel_rfl, fun h => by simp at h⟩
def tyTab : List (Nat × TyD × Bool) := [(1, t_1, false), (2, t_2, false), (3, t_3, false), (4, t_4, false), (5, t_5, false), (6, t_6, false), (7, t_7, true), (8, t_8, true), (9, t_9, false), (10, t_10, false), (11, t_11, false), (12, t_12, false), (13, t_13, false), (14, t_14, false), (15, t_15, false), (16, t_16, false), (17, t_17, false), (18, t_18, false), (19, t_19, false), (21, t_21, false), (22, t_22, false), (24, t_24, false), (25, t_25, false), (26, t_26, false), (27, t_27, false), (28, t_28, true), (29, t_29, true), (30, t_30, true), (31, t_31, true), (32, t_32, true), (33, t_33, true), (34, t_34, true), (35, t_35, true), (37, t_37, false), (38, t_38, false), (39, t_39, false), (40, t_40, false), (42, t_42, false), (43, t_43, false), (44, t_44, false), (45, t_45, true), (46, t_46, true), (47, t_47, false), (48, t_48, false), (50, t_50, false), (51, t_51, false), (52, t_52, false), (53, t_53, false), (54, t_54, false), (55, t_55, false), (57, t_57, false), (59, t_59, false), (60, t_60, false), (61, t_61, false), (62, t_62, false), (64, t_64, false), (65, t_65, false), (66, t_66, false), (67, t_67, false), (68, t_68, false), (69, t_69, false), (70, t_70, false), (71, t_71, false), (72, t_72, false), (76, t_76, false), (77, t_77, false), (78, t_78, false), (79, t_79, false), (80, t_80, false), (81, t_81, false), (82, t_82, false), (83, t_83, false), (85, t_85, false), (87, t_87, false), (88, t_88, false), (89, t_89, false), (90, t_90, false), (91, t_91, false), (92, t_92, false), (93, t_93, true), (94, t_94, true), (95, t_95, false), (96, t_96, false), (97, t_97, false), (98, t_98, false), (99, t_99, false), (100, t_100, false), (101, t_101, false), (102, t_102, true), (103, t_103, true), (104, t_104, false), (106, t_106, false), (107, t_107, false), (108, t_108, false), (109, t_109, false), (110, t_110, false), (111, t_111, false), (112, t_112, false), (113, t_113, false), (114, t_114, false), (116, t_116, false), (117, t_117, false), (118, t_118, false), (119, t_119, false), (121, t_121, false), (122, t_122, false), (123, t_123, false), (124, t_124, false), (125, t_125, false), (126, t_126, false), (127, t_127, false), (128, t_128, false), (129, t_129, false), (130, t_130, false), (131, t_131, false), (132, t_132, false), (133, t_133, false), (134, t_134, false), (135, t_135, false), (136, t_136, false), (137, t_137, false), (138, t_138, false), (139, t_139, false), (140, t_140, false), (141, t_141, false), (143, t_143, false), (144, t_144, false), (145, t_145, true), (146, t_146, true), (147, t_147, false), (148, t_148, false), (150, t_150, false), (151, t_151, false), (152, t_152, true), (153, t_153, true), (154, t_154, false), (155, t_155, false), (156, t_156, false), (157, t_157, false), (158, t_158, false), (159, t_159, false), (160, t_160, false), (161, t_161, false), (162, t_162, false), (163, t_163, false), (164, t_164, false), (165, t_165, false), (166, t_166, false), (167, t_167, false), (168, t_168, false), (169, t_169, false), (170, t_170, false), (171, t_171, false), (172, t_172, false), (173, t_173, false), (174, t_174, false), (175, t_175, false)]
@[reducible] def T0 : Ty := lookT tyTab
@[reducible] def Q0 : Nat → Bool := lookQ tyTab
theorem tabOk : TabOk Tryd.prog T0 Q0 := tab_ok (l := tyTab) (⟨i_1, i_2, i_3, i_4, i_5, i_6, i_7, i_8, i_9, i_10, i_11, i_12, i_13, i_14, i_15, i_16, i_17, i_18, i_19, i_21, i_22, i_24, i_25, i_26, i_27, i_28, i_29, i_30, i_31, i_32, i_33, i_34, i_35, i_37, i_38, i_39, i_40, i_42, i_43, i_44, i_45, i_46, i_47, i_48, i_50, i_51, i_52, i_53, i_54, i_55, i_57, i_59, i_60, i_61, i_62, i_64, i_65, i_66, i_67, i_68, i_69, i_70, i_71, i_72, i_76, i_77, i_78, i_79, i_80, i_81, i_82, i_83, i_85, i_87, i_88, i_89, i_90, i_91, i_92, i_93, i_94, i_95, i_96, i_97, i_98, i_99, i_100, i_101, i_102, i_103, i_104, i_106, i_107, i_108, i_109, i_110, i_111, i_112, i_113, i_114, i_116, i_117, i_118, i_119, i_121, i_122, i_123, i_124, i_125, i_126, i_127, i_128, i_129, i_130, i_131, i_132, i_133, i_134, i_135, i_136, i_137, i_138, i_139, i_140, i_141, i_143, i_144, i_145, i_146, i_147, i_148, i_150, i_151, i_152, i_153, i_154, i_155, i_156, i_157, i_158, i_159, i_160, i_161, i_162, i_163, i_164, i_165, i_166, i_167, i_168, i_169, i_170, i_171, i_172, i_173, i_174, i_175, trivial⟩)
end Go.Proofs.YtamachahlhlhlaaDoor.Eng
set_option linter.unusedVariables false
set_option linter.unusedSimpArgs false
namespace Go.Proofs.YtamachahlhlhlaaDoor.Eng
open Go Go.RowKit
set_option maxRecDepth 100000
theorem seg_get {α : Type} {l : List α} {s n i : Nat} {a : α} (h : (seg l s n)[i]? = some a) : l[s + i]? = some a ∧ i < n := by
  unfold seg at h
  rw [List.getElem?_take] at h
  split at h
  · rw [List.getElem?_drop] at h; exact ⟨h, by assumption⟩
  · simp at h
theorem seg_len {α : Type} {l : List α} {s n : Nat} (h : s + n ≤ l.length) : (seg l s n).length = n := by
  simp [seg]; omega
theorem atL_i {α : Type} {l : List α} {s n i : Nat} {a : α} {K : α → Prop} (ha : (seg l s n)[i]? = some a) (h : K a) : atL l (s + ((i : Nat) : Int).toNat) K :=
  atL_iff.2 ⟨a, by simpa using (seg_get ha).1, h⟩
theorem atL_0 {α : Type} {l : List α} {i : Nat} {a : α} {K : α → Prop} (ha : l[i]? = some a) (h : K a) : atL l (0 + ((i : Nat) : Int).toNat) K :=
  atL_iff.2 ⟨a, by simpa using ha, h⟩
theorem atL_n {α : Type} {l : List α} {i : Nat} {a : α} {K : α → Prop} (ha : l[i]? = some a) (h : K a) : atL l ((i : Nat) : Int).toNat K :=
  atL_iff.2 ⟨a, by simpa using ha, h⟩
theorem atL_p {α : Type} {l : List α} {i : Nat} {a : α} {K : α → Prop} (ha : l[i]? = some a) (h : K a) : atL l i K := atL_iff.2 ⟨a, ha, h⟩
theorem atL_e {α : Type} {l : List α} {i j : Nat} {a : α} {K : α → Prop} (e : i = j) (ha : l[j]? = some a) (h : K a) : atL l i K := by subst e; exact atL_iff.2 ⟨a, ha, h⟩
theorem seg_all {α : Type} (l : List α) : seg l 0 l.length = l := by simp [seg]
theorem seg_full {α : Type} {l : List α} {n : Nat} (h : l.length = n) : seg l 0 n = l := by simp [seg, ← h]
theorem get_some {α : Type} {l : List α} {i : Nat} (h : i < l.length) : ∃ a, l[i]? = some a := ⟨l[i], by simp [h]⟩
/-- The first place where p holds, or -1. -/
def findI {α : Type} (p : α → Bool) (l : List α) : Int := if l.any p = true then (l.findIdx p : Int) else -1
theorem findI_none {α : Type} {p : α → Bool} {l : List α} (h : ∀ (j : Nat) a, l[j]? = some a → p a = false) : findI p l = -1 := by
  unfold findI
  rw [if_neg]
  rw [List.any_eq_true]
  rintro ⟨a, ha, hp⟩
  obtain ⟨j, hj⟩ := List.getElem?_of_mem ha
  rw [h j a hj] at hp; simp at hp
theorem findI_some {α : Type} {p : α → Bool} {l : List α} {i : Nat} {a : α} (ha : l[i]? = some a) (hp : p a = true) (h : ∀ (j : Nat) a, j < i → l[j]? = some a → p a = false) : findI p l = i := by
  unfold findI
  rw [if_pos (List.any_eq_true.2 ⟨a, List.mem_of_getElem? ha, hp⟩)]
  obtain ⟨hi, e⟩ := List.getElem?_eq_some_iff.1 ha
  have : l.findIdx p = i := by
    rw [List.findIdx_eq hi]
    exact ⟨by rw [e]; exact hp, fun j hj => h j _ hj (by simp)⟩
  rw [this]
theorem findI_any {α : Type} (p : α → Bool) (l : List α) : decide (0 ≤ findI p l) = l.any p := by
  unfold findI
  split
  · rename_i h; rw [h]; simp
  · rename_i h
    have : l.any p = false := by simpa using h
    rw [this]; rfl
theorem app_take {α : Type} {D : List α} {i : Nat} {w : α} (h : D[i]? = some w) : seg (D.take i) 0 i ++ seg [w] 0 1 = D.take (i + 1) := by
  have hl := (List.getElem?_eq_some_iff.1 h).1
  rw [seg_full (by rw [List.length_take]; omega), List.take_add_one, h]; rfl
/-- Two rows alike so far. -/
theorem same_end {α : Type} {L M : List α} {n : Nat} (h1 : L.length = n) (h2 : M.length = n) (h : L.take n = M.take n) : L = M := by
  rwa [List.take_of_length_le (by omega), List.take_of_length_le (by omega)] at h
theorem same_step {α : Type} {L M : List α} {i : Nat} {a b : α} (ha : L[i]? = some a) (hb : M[i]? = some b) (h : L.take i = M.take i) (hab : a = b) : L.take (i + 1) = M.take (i + 1) := by
  rw [List.take_add_one, List.take_add_one, h, ha, hb, hab]
theorem same_not {α : Type} {L M : List α} {i : Nat} {a b : α} (ha : L[i]? = some a) (hb : M[i]? = some b) (hab : a ≠ b) : L ≠ M := by
  rintro rfl
  rw [ha] at hb; exact hab (Option.some.inj hb)
theorem all_yes {α : Type} {p : α → Bool} {L : List α} {n : Nat} (hn : L.length ≤ n) (h : ∀ (j : Nat) a, j < n → L[j]? = some a → p a = true) : L.all p = true := by
  rw [List.all_eq_true]
  intro a ha
  obtain ⟨j, hj⟩ := List.getElem?_of_mem ha
  exact h j a (by have := (List.getElem?_eq_some_iff.1 hj).1; omega) hj
theorem all_no {α : Type} {p : α → Bool} {L : List α} {i : Nat} {a : α} (ha : L[i]? = some a) (hp : p a = false) : L.all p = false := by
  rw [List.all_eq_false]
  exact ⟨a, List.mem_of_getElem? ha, by simp [hp]⟩
/-- One more place where something holds. -/
theorem upto_step {α : Type} {p : α → Prop} {L : List α} {i : Nat} {a : α} (ha : L[i]? = some a) (hp : p a) (h : ∀ (j : Nat) b, j < i → L[j]? = some b → p b) : ∀ (j : Nat) b, j < i + 1 → L[j]? = some b → p b := fun j b hj hb => by
  by_cases e : j < i
  · exact h j b e hb
  · obtain rfl : j = i := by omega
    rw [ha] at hb; obtain rfl := Option.some.inj hb; exact hp
/-- Tests whose outcome is known. -/
theorem splitT_of {b : Bool} {A B : Prop} (h : b = true) (k : A) : splitB b A B := by subst h; exact splitT k
theorem splitF_of {b : Bool} {A B : Prop} (h : b = false) (k : B) : splitB b A B := by subst h; exact splitF k
def s_within : Spec := fun args S => match args, S with
  | [.int .i64 n, .int .i64 a, .int .i64 b], [] => ⟨True, .bool (decide (a ≤ n ∧ n ≤ b)), []⟩
  | _, _ => noSpec
theorem ok_within : SpecOk Tryd.prog 21 s_within := by
  intro args S h; unfold s_within at h ⊢; (split at h <;> first | exact False.elim h | skip)
  dsimp only at h ⊢
  refine funW tabOk (E := []) trivial [] (k := 0) (fn := Tryd.f21) rfl rfl rfl rfl rfl rfl ?_
  (repeat' ((try (conv => whnf)); first | (with_reducible first | refine And.intro ?_ ?_ | refine WX.of ?_) | exact zc | ((with_reducible refine VC.mk ?_); exact zw) | (with_reducible first | refine splitT ?_ | refine splitF ?_) | ((with_reducible refine splitM.mk (fun hsm => ?_) (fun hsm => ?_)) <;> (try exact zx)) | ((with_reducible refine splitB.mk (fun h => ?_) (fun h => ?_)) <;> (try simp only [zs, ne_eq] at h) <;> (try simp (disch := omega) only [w64] at h) <;> (try exact zx)) | (with_reducible intro hz; (try exact absurd hz (Nat.succ_ne_zero _)))))
  all_goals (first | exact ⟨rfl⟩ | (refine ⟨?_⟩; simp_all; done) | (refine ⟨?_⟩; simp_all; omega))
theorem ok_l00In : SpecOk Tryd.prog 16 s_within := by
  intro args S h; unfold s_within at h ⊢; (split at h <;> first | exact False.elim h | skip)
  dsimp only at h ⊢
  refine funW tabOk (E := []) trivial [] (k := 0) (fn := Tryd.f16) rfl rfl rfl rfl rfl rfl ?_
  (repeat' ((try (conv => whnf)); first | (with_reducible first | refine And.intro ?_ ?_ | refine WX.of ?_) | exact zc | ((with_reducible refine VC.mk ?_); exact zw) | (with_reducible first | refine splitT ?_ | refine splitF ?_) | ((with_reducible refine splitM.mk (fun hsm => ?_) (fun hsm => ?_)) <;> (try exact zx)) | ((with_reducible refine splitB.mk (fun h => ?_) (fun h => ?_)) <;> (try simp only [zs, ne_eq] at h) <;> (try simp (disch := omega) only [w64] at h) <;> (try exact zx)) | (with_reducible intro hz; (try exact absurd hz (Nat.succ_ne_zero _)))))
  all_goals (first | exact ⟨rfl⟩ | (refine ⟨?_⟩; simp_all; done) | (refine ⟨?_⟩; simp_all; omega))
/-- The sizes of all elements. -/
def tot {α : Type} (f : α → Nat) (l : List α) : Nat := (l.map f).sum
/-- A valid fraction. -/
def fOk (p q : Int) : Bool := decide (1 ≤ q ∧ q ≤ 1000000000 ∧ -1000000000 ≤ p ∧ p ≤ 1000000000 ∧ Int.gcd p q = 1)
end Go.Proofs.YtamachahlhlhlaaDoor.Eng
set_option linter.unusedVariables false
set_option linter.unusedSimpArgs false
namespace Go.Proofs.YtamachahlhlhlaaDoor.Eng
open Go Go.RowKit
set_option maxRecDepth 100000
def sh_lays156_ren : Go.Shelf.Ren := ⟨fun | 156 => 41 | 165 => 64 | 166 => 65 | 169 => 66 | 240 => 90 | 241 => 91 | 276 => 105 | 277 => 106 | n => n, fun | 31 => 39 | 9 => 9 | 3 => 3 | 4 => 4 | 0 => 0 | 20 => 20 | 72 => 103 | 76 => 105 | 70 => 101 | 37 => 78 | 75 => 74 | 127 => 128 | 164 => 136 | 5 => 5 | 80 => 107 | n => n, fun | n => n⟩
theorem sh_lays156 : Go.Proofs.Lays.n156 Tryd.prog sh_lays156_ren := {
  mixed := by kernel_rfl
  f156 := Tryd.func41.trans (congrArg some (by kernel_rfl))
  f165 := Tryd.func64.trans (congrArg some (by kernel_rfl))
  f166 := Tryd.func65.trans (congrArg some (by kernel_rfl))
  f169 := Tryd.func66.trans (congrArg some (by kernel_rfl))
  f240 := Tryd.func90.trans (congrArg some (by kernel_rfl))
  f241 := Tryd.func91.trans (congrArg some (by kernel_rfl))
  f276 := Tryd.func105.trans (congrArg some (by kernel_rfl))
  f277 := Tryd.func106.trans (congrArg some (by kernel_rfl))
  t0 := Tryd.underlying0
  a0 := Tryd.isAgg0
  z0 := Tryd.sizeOf0
  v0 := Tryd.zeroValue0
  t3 := Tryd.underlying3
  a3 := Tryd.isAgg3
  z3 := Tryd.sizeOf3
  v3 := Tryd.zeroValue3
  t4 := Tryd.underlying4
  a4 := Tryd.isAgg4
  z4 := Tryd.sizeOf4
  v4 := Tryd.zeroValue4
  t9 := Tryd.underlying9
  a9 := Tryd.isAgg9
  z9 := Tryd.sizeOf9
  v9 := Tryd.zeroValue9
  t20 := Tryd.underlying20
  a20 := Tryd.isAgg20
  z20 := Tryd.sizeOf20
  v20 := Tryd.zeroValue20
  t31 := Tryd.underlying39
  a31 := Tryd.isAgg39
  z31 := Tryd.sizeOf39
  v31 := Tryd.zeroValue39
  t37 := Tryd.underlying78
  a37 := Tryd.isAgg78
  z37 := Tryd.sizeOf78
  v37 := Tryd.zeroValue78
  t70 := Tryd.underlying101
  a70 := Tryd.isAgg101
  z70 := Tryd.sizeOf101
  v70 := Tryd.zeroValue101
  t72 := Tryd.underlying103
  a72 := Tryd.isAgg103
  z72 := Tryd.sizeOf103
  v72 := Tryd.zeroValue103
  t75 := Tryd.underlying74
  a75 := Tryd.isAgg74
  z75 := Tryd.sizeOf74
  v75 := Tryd.zeroValue74
  t76 := Tryd.underlying105
  a76 := Tryd.isAgg105
  z76 := Tryd.sizeOf105
  v76 := Tryd.zeroValue105
  t127 := Tryd.underlying128
  a127 := Tryd.isAgg128
  z127 := Tryd.sizeOf128
  v127 := Tryd.zeroValue128
  t164 := Tryd.underlying136
  a164 := Tryd.isAgg136
  z164 := Tryd.sizeOf136
  v164 := Tryd.zeroValue136 }
theorem sh_Builder_Extra_156 : Builder.Extra Tryd.prog sh_lays156_ren := {
  sizeBuilder := by kernel_rfl
  liesBuilder := by kernel_rfl
  t5 := Tryd.underlying5
  a5 := Tryd.isAgg5
  z5 := Tryd.sizeOf5
  v5 := Tryd.zeroValue5
  infoByte := by kernel_rfl
  cellsByte := by kernel_rfl
  sizeByte := by kernel_rfl
  neB5 := by decide }
open Go.RowKit in
/-- strings.Join: "Join concatenates the elements of its first argument to create a single string. The separator string sep is placed between elements in the resulting string.": HOWEVER MANY ELEMENTS. Below the heap's end the world is as it was. (LAID: no walk: one application.) -/
theorem sh_strings_Join (bk o c : Nat) (xs : List ByteArray) (sep : ByteArray) (w : World) (hcells : ∀ (j : Nat) x, xs[j]? = some x → w.cell? ⟨bk, o + j, none⟩ = some (.string x)) (hbk : bk < w.heap.size) (hN : xs.length ≤ 140737488355328) (hcap : xs.length ≤ c) (hlen : (Lib.join (xs.map (·.data.toList)) sep.data.toList).length ≤ 140737488355328) :
    Calls Tryd.prog 41 #[.slice (some ⟨bk, o, none⟩) xs.length c, .string sep] w fun e w' => e = .returned (.string ⟨(Lib.join (xs.map (·.data.toList)) sep.data.toList).toArray⟩) ∧ Below w.heap.size w w' := Any.strings_Join sh_lays156 sh_Builder_Extra_156 bk o c xs sep w hcells hbk hN hcap hlen
def sh_laysM173_ren : Go.Shelf.Ren := ⟨fun | 173 => 67 | 246 => 92 | 283 => 107 | 284 => 108 | 285 => 109 | 286 => 110 | 129 => 115 | 317 => 114 | 318 => 116 | 319 => 117 | 320 => 118 | 337 => 119 | 338 => 120 | n => n, fun | 2 => 2 | 3 => 3 | 9 => 9 | 4 => 4 | 171 => 139 | 0 => 0 | 53 => 119 | 37 => 78 | 5 => 5 | 173 => 142 | 212 => 155 | 51 => 148 | 20 => 20 | 213 => 156 | 46 => 122 | 232 => 160 | 233 => 161 | n => n, fun | 17 => 5 | 18 => 6 | 19 => 7 | n => n⟩
theorem sh_laysM173 : Go.Proofs.LaysM.n173 Tryd.prog sh_laysM173_ren := {
  mixed := by kernel_rfl
  f129 := Tryd.func115.trans (congrArg some (by kernel_rfl))
  f173 := Tryd.func67.trans (congrArg some (by kernel_rfl))
  f246 := Tryd.func92.trans (congrArg some (by kernel_rfl))
  f283 := Tryd.func107.trans (congrArg some (by kernel_rfl))
  f284 := Tryd.func108.trans (congrArg some (by kernel_rfl))
  f285 := Tryd.func109.trans (congrArg some (by kernel_rfl))
  f286 := Tryd.func110.trans (congrArg some (by kernel_rfl))
  f317 := Tryd.func114.trans (congrArg some (by kernel_rfl))
  f318 := Tryd.func116.trans (congrArg some (by kernel_rfl))
  f319 := Tryd.func117.trans (congrArg some (by kernel_rfl))
  f320 := Tryd.func118.trans (congrArg some (by kernel_rfl))
  f337 := Tryd.func119.trans (congrArg some (by kernel_rfl))
  f338 := Tryd.func120.trans (congrArg some (by kernel_rfl))
  t0 := Tryd.underlying0
  a0 := Tryd.isAgg0
  z0 := Tryd.sizeOf0
  v0 := Tryd.zeroValue0
  t2 := Tryd.underlying2
  a2 := Tryd.isAgg2
  z2 := Tryd.sizeOf2
  v2 := Tryd.zeroValue2
  t3 := Tryd.underlying3
  a3 := Tryd.isAgg3
  z3 := Tryd.sizeOf3
  v3 := Tryd.zeroValue3
  t4 := Tryd.underlying4
  a4 := Tryd.isAgg4
  z4 := Tryd.sizeOf4
  v4 := Tryd.zeroValue4
  t5 := Tryd.underlying5
  a5 := Tryd.isAgg5
  z5 := Tryd.sizeOf5
  v5 := Tryd.zeroValue5
  t9 := Tryd.underlying9
  a9 := Tryd.isAgg9
  z9 := Tryd.sizeOf9
  v9 := Tryd.zeroValue9
  t20 := Tryd.underlying20
  a20 := Tryd.isAgg20
  z20 := Tryd.sizeOf20
  v20 := Tryd.zeroValue20
  t37 := Tryd.underlying78
  a37 := Tryd.isAgg78
  z37 := Tryd.sizeOf78
  v37 := Tryd.zeroValue78
  t46 := Tryd.underlying122
  a46 := Tryd.isAgg122
  z46 := Tryd.sizeOf122
  v46 := Tryd.zeroValue122
  t51 := Tryd.underlying148
  a51 := Tryd.isAgg148
  z51 := Tryd.sizeOf148
  v51 := Tryd.zeroValue148
  t53 := Tryd.underlying119
  a53 := Tryd.isAgg119
  z53 := Tryd.sizeOf119
  v53 := Tryd.zeroValue119
  t171 := Tryd.underlying139
  a171 := Tryd.isAgg139
  z171 := Tryd.sizeOf139
  v171 := Tryd.zeroValue139
  t173 := Tryd.underlying142
  a173 := Tryd.isAgg142
  z173 := Tryd.sizeOf142
  v173 := Tryd.zeroValue142
  t212 := Tryd.underlying155
  a212 := Tryd.isAgg155
  z212 := Tryd.sizeOf155
  v212 := Tryd.zeroValue155
  t213 := Tryd.underlying156
  a213 := Tryd.isAgg156
  z213 := Tryd.sizeOf156
  t232 := Tryd.underlying160
  a232 := Tryd.isAgg160
  z232 := Tryd.sizeOf160
  v232 := Tryd.zeroValue160
  t233 := Tryd.underlying161
  a233 := Tryd.isAgg161
  z233 := Tryd.sizeOf161
  v233 := Tryd.zeroValue161
  g17 := by kernel_rfl
  g18 := by kernel_rfl
  g19 := by kernel_rfl
  i0 := by kernel_rfl
  i2 := by kernel_rfl
  i3 := by kernel_rfl
  i4 := by kernel_rfl
  i5 := by kernel_rfl
  i9 := by kernel_rfl
  i20 := by kernel_rfl
  i37 := by kernel_rfl
  i46 := by kernel_rfl
  i51 := by kernel_rfl
  i53 := by kernel_rfl
  i171 := by kernel_rfl
  i173 := by kernel_rfl
  i212 := by kernel_rfl
  i232 := by kernel_rfl
  i233 := by kernel_rfl
  m17 := by kernel_rfl
  m18 := by kernel_rfl
  m19 := by kernel_rfl }
open Go.RowKit Go.Sort Go.Lib in
/-- strconv.FormatInt: "FormatInt returns the string representation of i in the given base": AT BASE 10: i's decimal numeral, for every int64. (LAID: no walk: one application.) -/
theorem sh_strconv_FormatInt_10 (n : Int) (h0 : -9223372036854775808 ≤ n) (h1 : n ≤ 9223372036854775807) (w : World) (htab : Lib.TabIs Tryd.prog w "internal/strconv.uint64pow10" .u64 Lib.pow10Tab) :
    Calls Tryd.prog 67 #[.int .i64 n, .int .i64 10] w fun e w' => e = .returned (.string ⟨(Lib.itoa n).toArray⟩) ∧ ∃ k os, w' = grow (w.drewN k) os := Any.strconv_FormatInt_10 sh_laysM173 n h0 h1 w htab
/-- A variable that holds something at first holds it later. -/
theorem var_below {P : Program} {w0 w : World} {name : String} {x : Array Value} (hb : Below w0.heap.size w0 w) (hg : w0.var? P name = some x) : w.var? P name = some x := by
  unfold World.var? at hg ⊢
  cases e : P.globalNamed name with
  | none => rw [e] at hg; cases hg
  | some g =>
    rw [e] at hg
    simp only [Option.bind_some] at hg ⊢
    have hlt : g < w0.heap.size := by
      rcases Nat.lt_or_ge g w0.heap.size with h' | h'
      · exact h'
      · rw [Array.getElem?_eq_none h'] at hg; cases hg
    rw [hb.block g hlt]
    exact hg
/-- The table that the numbers' texts are made of, wherever the walk stands. -/
theorem HRel.tab {w0 w : World} {ι : Ren} {H : Heap} (h : HRel w0 ι H w) : Lib.TabIs Tryd.prog w "internal/strconv.uint64pow10" .u64 Lib.pow10Tab := by
  have hg : Lib.TabIs Tryd.prog w0 "internal/strconv.uint64pow10" .u64 Lib.pow10Tab := by first | exact h.glob.1 | exact h.glob.1.1
  exact var_below h.below hg
/-- A world that a call has left as it was, but for blocks of its own. -/
theorem HRel.after {w0 w w' : World} {ι : Ren} {H : Heap} (h : HRel w0 ι H w) (hb : Below w.heap.size w w') : HRel w0 ι H w' :=
  ⟨h.below.trans ⟨hb.os, hb.tape, hb.output, hb.size, fun k hk => hb.block k (Nat.lt_of_lt_of_le hk h.below.size)⟩, h.dom, fun id L b hi hbk => by
    obtain ⟨c, e, fr, q1, q⟩ := h.blk id L b hi hbk
    exact ⟨c, e, fr, by rw [hb.block L.blk (h.lt hi hbk)]; exact q1, q⟩, h.sep, h.flat, h.tot, h.glob.1, trivial⟩
/-- A call of flat values that answers a flat value and leaves what was. -/
theorem Runs_flat {f : FuncId} {H : Heap} {more : List Value} {v : Value} (hen : Enters Tryd.prog f) (hmore : ∀ {ι : Ren} {ys : List Value}, LRel ι more ys → ys = more) (hv : flatV v = true)
    (hcon : ∀ w, Lib.TabIs Tryd.prog w "internal/strconv.uint64pow10" .u64 Lib.pow10Tab → Calls Tryd.prog f ⟨more⟩ w fun e w' => e = .returned v ∧ Below w.heap.size w w') :
    Runs Tryd.prog f more H (fun u G => u = v ∧ G = H) := by
  refine ⟨hen, fun w0 ι w args' h2 h3 => ?_⟩
  have := hmore h3
  subst this
  refine (hcon w h2.tab).mono fun e w' ⟨he, hb⟩ => ?_
  exact ⟨_, _, _, ι, he, ⟨rfl, rfl⟩, .flat hv, h2.after hb, .refl _ _, OCs.refl _ _, Nat.le_refl _⟩
end Go.Proofs.YtamachahlhlhlaaDoor.Eng
set_option linter.unusedVariables false
set_option linter.unusedSimpArgs false
namespace Go.Proofs.YtamachahlhlhlaaDoor.Eng
open Go Go.RowKit
set_option maxRecDepth 100000
/-- One byte turned to a text. -/
theorem conv_one {P : Program} {w : World} {s d b : Nat} {x : Int} (hc : w.cell? ⟨b, 0, none⟩ = some (.int .u8 x)) (h1 : P.underlying s = some (.slice 5)) (h2 : P.underlying 5 = some (.int .u8)) (h3 : P.underlying d = some .string) :
    Sem.run P (convert s d (.slice (some ⟨b, 0, none⟩) 1 1)) w = .ok (.string ⟨#[UInt8.ofNat x.toNat]⟩) w := by
  rw [run_convert_bytes_string w s d 5 _ _ _ h1 h2 h3]
  have hld : (loadCells ⟨b, 0, none⟩ 1).run P w = .ok ([x].map (Value.int .u8)).toArray w :=
    run_loadCells (P := P) w _ 1 (fun _ => .int .u8 x) fun j hj => by
      obtain rfl : j = 0 := by omega
      exact hc
  rw [run_bytesToString w _ 1 1 [x] hld]
  rfl
/-- The digits of a number that is at least 0, k + 1 of them at most. -/
def decT : Nat → Int → List UInt8
  | 0, n => [UInt8.ofNat (48 + n % 10).toNat]
  | k + 1, n => if n < 10 then [UInt8.ofNat (48 + n % 10).toNat] else decT k (n / 10) ++ [UInt8.ofNat (48 + n % 10).toNat]
theorem decT_len : ∀ (k : Nat) (n : Int), (decT k n).length ≤ k + 1
  | 0, n => by simp [decT]
  | k + 1, n => by
    have := decT_len k (n / 10)
    simp only [decT]
    split
    · simp
    · simp; omega
set_option maxRecDepth 100000 in
theorem dec_calls : ∀ (k : Nat) (n : Int) (w : World), k ≤ 100 → 0 ≤ n → n < 10 ^ (k + 1) → n ≤ 9223372036854775807 →
    Calls Tryd.prog 37 #[.int .i64 n] w fun e w' => e = .returned (.string ⟨(decT k n).toArray⟩) ∧ Below w.heap.size w w' := by
  intro k
  induction k with
  | zero =>
    intro n w hk h0 h1 h2
    have h3 : n < 10 := by simpa using h1
    go_enter Tryd.func37, Tryd.ntmps37
    go_wp2
    rw [conv_one (x := 48 + n % 10) (by go_simp) (by kernel_rfl) (by kernel_rfl) (by kernel_rfl)]
    go_wp2
    go_ret
    exact ⟨rfl, (Below.refl _ w).alloc (Nat.le_refl _) _⟩
  | succ k ih =>
    intro n w hk h0 h1 h2
    by_cases h3 : n < 10
    · go_enter Tryd.func37, Tryd.ntmps37
      go_wp2
      rw [conv_one (x := 48 + n % 10) (by go_simp) (by kernel_rfl) (by kernel_rfl) (by kernel_rfl)]
      go_wp2
      go_ret
      refine ⟨?_, (Below.refl _ w).alloc (Nat.le_refl _) _⟩
      rw [show decT (k + 1) n = [UInt8.ofNat (48 + n % 10).toNat] from if_pos h3]
      rfl
    · go_enter Tryd.func37, Tryd.ntmps37
      have hconv : ∀ (W : World) (b : Nat) (x : Int), W.cell? ⟨b, 0, none⟩ = some (.int .u8 x) → Sem.run Tryd.prog (convert 78 9 (.slice (some ⟨b, 0, none⟩) 1 1)) W = .ok (.string ⟨#[UInt8.ofNat x.toNat]⟩) W :=
        fun W b x hc => conv_one hc (by kernel_rfl) (by kernel_rfl) (by kernel_rfl)
      have ihx : ∀ W, Calls Tryd.prog 37 #[.int .i64 (IntKind.i64.wrap (n.tdiv 10))] W fun e w' => e = .returned (.string ⟨(decT k (n / 10)).toArray⟩) ∧ Below W.heap.size W w' := fun W => by
        have e : IntKind.i64.wrap (n.tdiv 10) = n / 10 := by rw [Int.tdiv_eq_ediv_of_nonneg h0, w64 (by omega)]
        rw [e]
        refine ih _ _ (by omega) (by omega) ?_ (by omega)
        have : (10 : Int) ^ (k + 1 + 1) = 10 ^ (k + 1) * 10 := Int.pow_succ ..
        omega
      have hl := decT_len k (n / 10)
      have hl1 : (decT k (n / 10)).length + 1 ≤ 9223372036854775807 := by omega
      have hl2 : ¬ 9223372036854775807 < (decT k (n / 10)).length + 1 := by omega
      have hl3 : (decT k (n / 10)).length < 9223372036854775807 := by omega
      have hl4 : (decT k (n / 10)).length ≤ 9223372036854775806 := by omega
      have e1 : IntKind.u8.wrap (IntKind.i64.wrap (48 + n.tmod 10)) = 48 + n % 10 := by
        rw [Int.tmod_eq_emod_of_nonneg h0, w64 (by omega)]
        simp [IntKind.wrap, IntKind.bits, IntKind.signed]
        omega
      have mk1 : ∀ {W' : World}, Below (w.drew.alloc (.cells #[.int .u8 (48 + n % 10)] 5)).heap.size (w.drew.alloc (.cells #[.int .u8 (48 + n % 10)] 5)) W' → W'.cell? ⟨w.heap.size, 0, none⟩ = some (.int .u8 (48 + n % 10)) := fun hb => by
        have hc : (w.drew.alloc (.cells #[.int .u8 (48 + n % 10)] 5)).cell? ⟨w.heap.size, 0, none⟩ = some (.int .u8 (48 + n % 10)) := by go_simp
        exact (hb.cell (World.block_lt_of_cell? _ _ hc)).trans hc
      go_wp2
      go_region_with (go_at_call 37; refine (ihx _).mono ?_; rintro e w' ⟨rfl, hb⟩; try have hq := mk1 hb)
      all_goals go_wp2
      all_goals go_ret
      all_goals
        refine ⟨?_, ?_⟩
        · rw [show decT (k + 1) n = decT k (n / 10) ++ [UInt8.ofNat (48 + n % 10).toNat] from if_neg (by omega)]
          show Ending.returned (Value.string ((⟨(decT k (n / 10)).toArray⟩ : ByteArray) ++ (⟨#[UInt8.ofNat (48 + n % 10).toNat]⟩ : ByteArray))) = _
          have key : ((⟨(decT k (n / 10)).toArray⟩ : ByteArray) ++ (⟨#[UInt8.ofNat (48 + n % 10).toNat]⟩ : ByteArray)) = ⟨(decT k (n / 10) ++ [UInt8.ofNat (48 + n % 10).toNat]).toArray⟩ := ByteArray.ext (by simp)
          rw [key]
        · first
            | exact ((Below.refl _ w).trans (show Below w.heap.size w w' from ⟨hb.os, hb.tape, hb.output, hb.size, hb.block⟩)).alloc hb.size _
            | exact ⟨hb.os, hb.tape, hb.output, Nat.le_trans (by simp) hb.size, fun k hk => (hb.block k (by simp; omega)).trans (heap_alloc_old _ _ hk)⟩
end Go.Proofs.YtamachahlhlhlaaDoor.Eng
set_option linter.unusedVariables false
set_option linter.unusedSimpArgs false
namespace Go.Proofs.YtamachahlhlhlaaDoor.Eng
open Go Go.RowKit
set_option maxRecDepth 100000
/-- A call of flat values, told by the machine's own word. -/
theorem RunsS_flat {f : FuncId} {args : List SV} {S : List SB} {v : SV} (hen : Enters Tryd.prog f) (ha : args.all flatS = true) (hv : flatS v = true)
    (hcon : ∀ w, Lib.TabIs Tryd.prog w "internal/strconv.uint64pow10" .u64 Lib.pow10Tab → Calls Tryd.prog f ⟨args.map toV⟩ w fun e w' => e = .returned (toV v) ∧ Below w.heap.size w w') : RunsS Tryd.prog f args S v S := by
  intro H ρ args' hD hd h
  have e := LDR.fun2 h (map_toV ha ρ)
  subst e
  have hfl := (map_toV ha ρ).flat ha
  have h1 := map_toV (xs := [v]) (by simp [hv]) ρ
  have hvf : flatV (toV v) = true := (List.all_eq_true.1 (h1.flat (by simp [hv]))) _ (by simp)
  obtain ⟨u, r, e1, hdr, _⟩ := h1.inv_cons
  obtain ⟨rfl, _⟩ := List.cons.inj e1
  refine ⟨toV v, H, ρ, Runs_flat hen (fun hl => (hl.flat_eq fun v hv => List.all_eq_true.1 hfl v hv)) hvf hcon, hdr, .refl hD hd⟩
/-- Numbers' texts. -/
def dcl (n : Int) : List UInt8 := decT 18 n
def sgT (n : Int) : List UInt8 := if n < 0 then 45 :: dcl (-n) else dcl n
theorem decT_19 (n : Int) : (dcl n).length ≤ 19 := decT_len 18 n
theorem sgT_20 (n : Int) : (sgT n).length ≤ 20 := by
  unfold sgT
  split
  · have := decT_19 (-n); simp; omega
  · have := decT_19 n; omega
def s_dcl : Spec := fun args S => match args, S with
  | [.int .i64 n], [] => ⟨0 ≤ n ∧ n ≤ 9223372036854775807, .str (dcl n), []⟩
  | _, _ => noSpec
theorem ok_dcl : SpecOk Tryd.prog 37 s_dcl := by
  intro args S h; unfold s_dcl at h ⊢; (split at h <;> first | exact False.elim h | skip)
  dsimp only at h ⊢
  rename_i n
  refine RunsS_flat ⟨Tryd.f37, rfl, rfl, rfl⟩ rfl rfl fun w _ => ?_
  exact dec_calls 18 n w (by omega) h.1 (by have : (10 : Int) ^ (18 + 1) = 10000000000000000000 := by decide
                                            omega) h.2
def s_sgT : Spec := fun args S => match args, S with
  | [.int .i64 n], [] => ⟨-9223372036854775807 ≤ n ∧ n ≤ 9223372036854775807, .str (sgT n), []⟩
  | _, _ => noSpec
theorem ok_sgT : SpecOk Tryd.prog 36 s_sgT := by
  intro args S h; unfold s_sgT at h ⊢; (split at h <;> first | exact False.elim h | skip)
  dsimp only at h ⊢
  rename_i n
  have h1 := decT_19 (-n)
  by_cases hn : n < 0
  · rw [show sgT n = 45 :: dcl (-n) from if_pos hn]
    have e : IntKind.i64.wrap (-n) = -n := w64 (by omega)
    refine funW tabOk (E := [(37, s_dcl)]) ⟨ok_dcl, trivial⟩ [] (k := 0) (fn := Tryd.f36) rfl rfl rfl rfl rfl rfl ?_
    (repeat' ((try (conv => whnf)); first | (with_reducible first | refine And.intro ?_ ?_ | refine WX.of ?_) | exact zc | ((with_reducible refine VC.mk ?_); exact zw) | ((with_reducible refine VC.mk ?_); exact ⟨by omega, by omega⟩) | (with_reducible first | refine splitT ?_ | refine splitF ?_) | ((with_reducible refine splitM.mk (fun hsm => ?_) (fun hsm => ?_)) <;> (try exact zx)) | ((with_reducible refine splitB.mk (fun h => ?_) (fun h => ?_)) <;> (try simp only [zs, ne_eq] at h) <;> (try simp (disch := omega) only [w64] at h) <;> (try exact zx)) | (with_reducible intro hz; (try exact absurd hz (Nat.succ_ne_zero _)))))
    · rw [show (0 - n : Int) = -n by omega, e]
      exact ⟨by simp; omega⟩
    · rw [show (0 - n : Int) = -n by omega, e]
      exact ⟨rfl⟩
  · rw [show sgT n = dcl n from if_neg hn]
    refine funW tabOk (E := [(37, s_dcl)]) ⟨ok_dcl, trivial⟩ [] (k := 0) (fn := Tryd.f36) rfl rfl rfl rfl rfl rfl ?_
    (repeat' ((try (conv => whnf)); first | (with_reducible first | refine And.intro ?_ ?_ | refine WX.of ?_) | exact zc | ((with_reducible refine VC.mk ?_); exact zw) | ((with_reducible refine VC.mk ?_); exact ⟨by omega, by omega⟩) | (with_reducible first | refine splitT ?_ | refine splitF ?_) | ((with_reducible refine splitM.mk (fun hsm => ?_) (fun hsm => ?_)) <;> (try exact zx)) | ((with_reducible refine splitB.mk (fun h => ?_) (fun h => ?_)) <;> (try simp only [zs, ne_eq] at h) <;> (try simp (disch := omega) only [w64] at h) <;> (try exact zx)) | (with_reducible intro hz; (try exact absurd hz (Nat.succ_ne_zero _)))))
def s_itoa : Spec := fun args S => match args, S with
  | [.int .i64 n, .int .i64 10], [] => ⟨-9223372036854775808 ≤ n ∧ n ≤ 9223372036854775807, .str (Lib.itoa n), []⟩
  | _, _ => noSpec
theorem ok_itoa : SpecOk Tryd.prog 67 s_itoa := by
  intro args S h; unfold s_itoa at h ⊢; (split at h <;> first | exact False.elim h | skip)
  dsimp only at h ⊢
  rename_i n
  refine RunsS_flat ⟨Tryd.f67, rfl, rfl, rfl⟩ rfl rfl fun w ht => ?_
  refine (sh_strconv_FormatInt_10 n h.1 h.2 w ht).mono fun e w' ⟨he, k, os, hw⟩ => ⟨he, ?_⟩
  rw [hw]
  exact ⟨rfl, rfl, rfl, by simp [Go.Sort.grow, World.drewN], fun k hk => Go.Sort.heap_grow_old (w.drewN _) os (by simpa [World.drewN] using hk)⟩
theorem decT_dig : ∀ (k u : Nat), u < 10 ^ (k + 1) → decT k u = Lib.decDigits u
  | 0, u, h => by
    have h : u < 10 := by simpa using h
    rw [Lib.decDigits, dif_pos h, decT, show (48 + (u : Int) % 10).toNat = 48 + u by omega]
  | k + 1, u, h => by
    rw [Lib.decDigits]
    by_cases h1 : u < 10
    · rw [dif_pos h1, decT, if_pos (by omega), show (48 + (u : Int) % 10).toNat = 48 + u by omega]
    · rw [dif_neg h1, decT, if_neg (by omega), show (u : Int) / 10 = ((u / 10 : Nat) : Int) by omega, decT_dig k (u / 10) (by
        have : 10 ^ (k + 1 + 1) = 10 ^ (k + 1) * 10 := Nat.pow_succ ..
        omega), show (48 + (u : Int) % 10).toNat = 48 + u % 10 by omega]
theorem dcl_dig {n : Int} (h0 : 0 ≤ n) (h1 : n ≤ 9223372036854775808) : dcl n = Lib.decDigits n.toNat := by
  have := decT_dig 18 n.toNat (by have : 10 ^ (18 + 1) = 10000000000000000000 := by decide
                                  omega)
  rw [← this, dcl, show ((n.toNat : Nat) : Int) = n by omega]
theorem itoa_sgT {n : Int} (h0 : -9223372036854775807 ≤ n) (h1 : n ≤ 9223372036854775807) : Lib.itoa n = sgT n := by
  unfold Lib.itoa sgT
  split
  · rw [dcl_dig (by omega) (by omega), show n.natAbs = (-n).toNat by omega]
  · rw [dcl_dig (by omega) (by omega)]
theorem ok_decI : SpecOk Tryd.prog 42 s_sgT := by
  intro args S h; unfold s_sgT at h ⊢; (split at h <;> first | exact False.elim h | skip)
  dsimp only at h ⊢
  rename_i n
  rw [← itoa_sgT h.1 h.2]
  refine funW tabOk (E := [(67, s_itoa)]) ⟨ok_itoa, trivial⟩ [] (k := 0) (fn := Tryd.f42) rfl rfl rfl rfl rfl rfl ?_
  (repeat' ((try (conv => whnf)); first | (with_reducible first | refine And.intro ?_ ?_ | refine WX.of ?_) | exact zc | ((with_reducible refine VC.mk ?_); exact zw) | ((with_reducible refine VC.mk ?_); exact ⟨by omega, by omega⟩) | (with_reducible first | refine splitT ?_ | refine splitF ?_) | ((with_reducible refine splitM.mk (fun hsm => ?_) (fun hsm => ?_)) <;> (try exact zx)) | ((with_reducible refine splitB.mk (fun h => ?_) (fun h => ?_)) <;> (try simp only [zs, ne_eq] at h) <;> (try simp (disch := omega) only [w64] at h) <;> (try exact zx)) | (with_reducible intro hz; (try exact absurd hz (Nat.succ_ne_zero _)))))
end Go.Proofs.YtamachahlhlhlaaDoor.Eng
set_option linter.unusedVariables false
set_option linter.unusedSimpArgs false
namespace Go.Proofs.YtamachahlhlhlaaDoor.Eng
open Go Go.RowKit
set_option maxRecDepth 100000
/-- A text split at each such byte. -/
def splL (c : UInt8) : List UInt8 → List (List UInt8)
  | [] => [[]]
  | x :: r => if x = c then [] :: splL c r else match splL c r with
    | h :: t => (x :: h) :: t
    | [] => [[x]]
theorem splL_ne (c : UInt8) : ∀ s, splL c s ≠ []
  | [] => by simp [splL]
  | x :: r => by
    simp only [splL]
    split
    · simp
    · split <;> simp
theorem splL_no {c : UInt8} : ∀ {s : List UInt8}, c ∉ s → splL c s = [s]
  | [], _ => rfl
  | x :: r, h => by
    have h1 : ¬ x = c := fun e => h (by rw [e]; exact List.mem_cons_self)
    have h2 := splL_no (c := c) (s := r) fun e => h (List.mem_cons_of_mem _ e)
    simp only [splL]
    rw [if_neg h1, h2]
theorem splL_app {c : UInt8} : ∀ {a b : List UInt8}, c ∉ a → splL c (a ++ c :: b) = a :: splL c b
  | [], b, _ => by simp [splL]
  | x :: a, b, h => by
    have h1 : ¬ x = c := fun e => h (by rw [e]; exact List.mem_cons_self)
    have h2 := splL_app (c := c) (a := a) (b := b) fun e => h (List.mem_cons_of_mem _ e)
    simp only [List.cons_append, splL]
    rw [if_neg h1, h2]
/-- The numbers of a list of digits, behind a number. -/
def digR : Int → List UInt8 → Option Int
  | n, [] => some n
  | n, x :: r => if x.toNat < 48 ∨ 57 < x.toNat then none else digR (10 * n + (x.toNat - 48 : Int)) r
theorem digR_app : ∀ (a b : List UInt8) (n : Int), digR n (a ++ b) = (digR n a).bind fun k => digR k b
  | [], b, n => rfl
  | x :: a, b, n => by
    simp only [List.cons_append, digR]
    split
    · rfl
    · exact digR_app a b _
theorem dig_b {d : Int} (h0 : 0 ≤ d) (h1 : d < 10) : (UInt8.ofNat (48 + d).toNat).toNat = 48 + d.toNat := by
  have e : (48 + d).toNat = 48 + d.toNat := by omega
  rw [e, UInt8.toNat_ofNat_of_lt' (show _ < 256 by omega)]
theorem digR_decT : ∀ (k : Nat) (n : Int), 0 ≤ n → n < 10 ^ (k + 1) → digR 0 (decT k n) = some n
  | 0, n, h0, h1 => by
    have h1 : n < 10 := by simpa using h1
    have e := dig_b (d := n % 10) (by omega) (by omega)
    simp only [decT, digR]
    rw [e, if_neg (by omega)]
    congr 1
    omega
  | k + 1, n, h0, h1 => by
    have e := dig_b (d := n % 10) (by omega) (by omega)
    simp only [decT]
    split
    · simp only [digR]
      rw [e, if_neg (by omega)]
      congr 1
      omega
    · rw [digR_app, digR_decT k (n / 10) (by omega) (by
        have : (10 : Int) ^ (k + 1 + 1) = 10 ^ (k + 1) * 10 := Int.pow_succ ..
        omega)]
      simp only [Option.bind_some, digR]
      rw [e, if_neg (by omega)]
      congr 1
      omega
theorem decT_10 : ∀ (k : Nat) (n : Int) (m : Nat), 0 ≤ n → n < 10 ^ m → 1 ≤ m → (decT k n).length ≤ m
  | 0, n, m, _, _, h => by simp [decT]; exact h
  | k + 1, n, m, h0, h1, h2 => by
    simp only [decT]
    split
    · simp; exact h2
    · rename_i h3
      match m, h1, h2 with
      | 1, h1, _ => exact absurd (by simpa using h1) h3
      | m + 2, h1, _ =>
        have := decT_10 k (n / 10) (m + 1) (by omega) (by
          have : (10 : Int) ^ (m + 2) = 10 ^ (m + 1) * 10 := Int.pow_succ ..
          omega) (by omega)
        simp
        exact this
/-- A number of several digits does not begin with a naught. -/
theorem decT_h : ∀ (k : Nat) (n : Int), 0 ≤ n → n < 10 ^ (k + 1) → 10 ≤ n → ∃ (d : Int) (r : List UInt8), decT k n = UInt8.ofNat (48 + d).toNat :: r ∧ 1 ≤ d ∧ d < 10
  | 0, n, _, h1, h2 => absurd (by simpa using h1) (show ¬ n < 10 by omega)
  | k + 1, n, h0, h1, h2 => by
    simp only [decT]
    rw [if_neg (by omega)]
    by_cases h3 : n / 10 < 10
    · have e : decT k (n / 10) = [UInt8.ofNat (48 + n / 10 % 10).toNat] := by
        cases k with
        | zero => rfl
        | succ k => simp only [decT]; rw [if_pos h3]
      rw [e]
      exact ⟨n / 10 % 10, _, rfl, by omega, by omega⟩
    · obtain ⟨d, r, e, h4, h5⟩ := decT_h k (n / 10) (by omega) (by
        have : (10 : Int) ^ (k + 1 + 1) = 10 ^ (k + 1) * 10 := Int.pow_succ ..
        omega) (by omega)
      rw [e]
      exact ⟨d, _, rfl, h4, h5⟩
/-- What the reference reads: a number of at most ten digits, and with a sign. -/
def numR (s : List UInt8) : Option Int := if s = [] ∨ 10 < s.length ∨ (s[0]? = some 48 ∧ 1 < s.length) then none else digR 0 s
def sgnR : List UInt8 → Option Int
  | 45 :: r => (numR r).bind fun n => if 0 < n then some (-n) else none
  | s => numR s
theorem decT_ne (k : Nat) (n : Int) : decT k n ≠ [] := by
  cases k with
  | zero => simp [decT]
  | succ k =>
    simp only [decT]
    split <;> simp
theorem numR_dcl {n : Int} (h0 : 0 ≤ n) (h1 : n < 10000000000) : numR (dcl n) = some n := by
  have h2 : n < 10 ^ (18 + 1) := by
    have : (10 : Int) ^ (18 + 1) = 10000000000000000000 := by decide
    omega
  have hl := decT_10 18 n 10 h0 (by have : (10 : Int) ^ 10 = 10000000000 := by decide
                                    omega) (by omega)
  unfold numR dcl
  rw [if_neg, digR_decT 18 n h0 h2]
  rintro (h | h | ⟨h, h3⟩)
  · exact decT_ne _ _ h
  · omega
  · by_cases h4 : n < 10
    · have : decT 18 n = [UInt8.ofNat (48 + n % 10).toNat] := by simp only [decT]; rw [if_pos h4]
      rw [this] at h3
      simp at h3
    · obtain ⟨d, r, e, h5, h6⟩ := decT_h 18 n h0 h2 (by omega)
      rw [e] at h
      simp only [List.getElem?_cons_zero, Option.some.injEq] at h
      have e2 := dig_b (d := d) (by omega) h6
      rw [h] at e2
      simp at e2
      omega
theorem numR_pos {s : List UInt8} {n : Int} (h : numR s = some n) : s.head? ≠ some 45 := by
  intro hh
  match s, hh with
  | x :: r, hh =>
    simp only [List.head?_cons, Option.some.injEq] at hh
    subst hh
    unfold numR at h
    split at h
    · simp at h
    · simp [digR] at h
theorem sgnR_num {s : List UInt8} (h : s.head? ≠ some 45) : sgnR s = numR s := by
  unfold sgnR
  split
  · simp at h
  · rfl
theorem sgnR_sgT {n : Int} (h0 : -10000000000 < n) (h1 : n < 10000000000) : sgnR (sgT n) = some n := by
  unfold sgT
  split
  · rename_i h
    simp only [sgnR]
    rw [numR_dcl (by omega) (by omega)]
    simp only [Option.bind_some]
    rw [if_pos (by omega)]
    congr 1
    omega
  · rename_i h
    have := numR_dcl (n := n) (by omega) (by omega)
    rw [sgnR_num (numR_pos this)]
    exact this
/-- What bytes a number's text has. -/
def dgB (x : UInt8) : Prop := 48 ≤ x.toNat ∧ x.toNat ≤ 57
theorem decT_b : ∀ (k : Nat) (n : Int), 0 ≤ n → n < 10 ^ (k + 1) → ∀ x ∈ decT k n, dgB x
  | 0, n, h0, h1 => by
    have e := dig_b (d := n % 10) (by omega) (by omega)
    intro x hx
    simp only [decT, List.mem_singleton] at hx
    subst hx
    unfold dgB
    omega
  | k + 1, n, h0, h1 => by
    have e := dig_b (d := n % 10) (by omega) (by omega)
    intro x hx
    simp only [decT] at hx
    split at hx
    · rw [List.mem_singleton] at hx
      subst hx
      unfold dgB
      omega
    · rcases List.mem_append.1 hx with hx | hx
      · exact decT_b k (n / 10) (by omega) (by
          have : (10 : Int) ^ (k + 1 + 1) = 10 ^ (k + 1) * 10 := Int.pow_succ ..
          omega) x hx
      · rw [List.mem_singleton] at hx
        subst hx
        unfold dgB
        omega
theorem dcl_b {n : Int} (h0 : 0 ≤ n) (h1 : n ≤ 9223372036854775807) : ∀ x ∈ dcl n, dgB x := decT_b 18 n h0 (by
  have : (10 : Int) ^ (18 + 1) = 10000000000000000000 := by decide
  omega)
theorem sgT_b {n : Int} (h0 : -9223372036854775807 ≤ n) (h1 : n ≤ 9223372036854775807) : ∀ x ∈ sgT n, dgB x ∨ x = 45 := by
  unfold sgT
  split
  · intro x hx
    rcases List.mem_cons.1 hx with hx | hx
    · exact .inr hx
    · exact .inl (dcl_b (by omega) (by omega) x hx)
  · exact fun x hx => .inl (dcl_b (by omega) (by omega) x hx)
/-- The i-th word. -/
def wR (W : List (List UInt8)) (i : Nat) : List UInt8 := (W[i]?).getD []
end Go.Proofs.YtamachahlhlhlaaDoor.Eng
set_option linter.unusedVariables false
set_option linter.unusedSimpArgs false
namespace Go.Proofs.YtamachahlhlhlaaDoor.Eng
open Go Go.RowKit
set_option maxRecDepth 100000
/-- As the reference splits: the pieces so far, where the next begins. -/
def spS (c : UInt8) (s : List UInt8) : Nat → List (List UInt8) × Nat
  | 0 => ([], 0)
  | i + 1 => if s[i]? = some c then ((spS c s i).1 ++ [(s.take i).drop (spS c s i).2], i + 1) else spS c s i
theorem spS_inv (c : UInt8) (s : List UInt8) : ∀ i, i ≤ s.length → (spS c s i).2 ≤ i ∧ (spS c s i).1.length ≤ i ∧ c ∉ (s.take i).drop (spS c s i).2 ∧ splL c s = (spS c s i).1 ++ splL c (s.drop (spS c s i).2)
  | 0, _ => by simp [spS]
  | i + 1, h => by
    obtain ⟨h1, h2, h3, h4⟩ := spS_inv c s i (by omega)
    have hi : i < s.length := by omega
    have ht : s.take (i + 1) = s.take i ++ [s[i]] := List.take_succ_eq_append_getElem hi
    simp only [spS]
    by_cases hc : s[i]? = some c
    · rw [if_pos hc]
      have he : s[i] = c := by rw [List.getElem?_eq_getElem hi] at hc; exact Option.some.inj hc
      refine ⟨Nat.le_refl _, by simp; exact h2, by simp, ?_⟩
      have hd : ∀ b, b ≤ i → s.drop b = (s.take i).drop b ++ c :: s.drop (i + 1) := fun b hb => by
        conv => lhs; rw [← List.take_append_drop i s]
        rw [List.drop_append_of_le_length (by rw [List.length_take]; omega), List.drop_eq_getElem_cons hi, he]
      rw [h4, hd _ h1, splL_app h3]
      simp
    · rw [if_neg hc]
      refine ⟨by omega, by omega, ?_, h4⟩
      rw [ht, List.drop_append_of_le_length (by rw [List.length_take]; omega)]
      intro hm
      rcases List.mem_append.1 hm with hm | hm
      · exact h3 hm
      · rw [List.mem_singleton] at hm
        exact hc (by rw [List.getElem?_eq_getElem hi, hm])
theorem spS_end (c : UInt8) (s : List UInt8) : splL c s = (spS c s s.length).1 ++ [s.drop (spS c s s.length).2] := by
  obtain ⟨_, _, h3, h4⟩ := spS_inv c s s.length (Nat.le_refl _)
  rw [List.take_length] at h3
  rw [h4, splL_no h3]
end Go.Proofs.YtamachahlhlhlaaDoor.Eng
set_option linter.unusedVariables false
set_option linter.unusedSimpArgs false
namespace Go.Proofs.YtamachahlhlhlaaDoor.Eng
open Go Go.RowKit
set_option maxRecDepth 100000
/-- What a row's cells are in the machine. -/
theorem HRel.listCells {w0 w : World} {ι : Ren} {H : Heap} (h : HRel w0 ι H w) {id : Nat} {L : Loc} {b : Blk} (hi : ι id = some L) (hb : H[id]? = some (some b)) (hfl : b.fl = true) :
    L.blk < w.heap.size ∧ ∀ (j : Nat) (v : Value), b.cells[j]? = some v → w.cell? ⟨L.blk, L.off + j, none⟩ = some v := by
  obtain ⟨c, e, fr, q1, q2, q3, q4, q5, q6⟩ := h.blk id L b hi hb
  refine ⟨h.lt hi hb, fun j v hv => ?_⟩
  obtain ⟨v', r1, r2⟩ := q5 j v hv
  have hf := h.flat id b hb hfl v (List.mem_of_getElem? hv)
  have := r2.flat_eq hf
  subst this
  rw [World.cell?]
  simp [q1, r1]
  done
/-- A call of a list and flat values that leaves what was. -/
theorem Runs_list {f : FuncId} {H : Heap} {id n c : Nat} {b : Blk} {more : List Value} {v : Value} (hb : getB H id = some b) (hn : 0 < n) (hfl : b.fl = true)
    (hen : Enters Tryd.prog f) (hmore : ∀ {ι : Ren} {ys : List Value}, LRel ι more ys → ys = more) (hv : flatV v = true)
    (hcon : ∀ (w : World) (blk off cap : Nat), Lib.TabIs Tryd.prog w "internal/strconv.uint64pow10" .u64 Lib.pow10Tab → (∀ (j : Nat) (v : Value), b.cells[j]? = some v → w.cell? ⟨blk, off + j, none⟩ = some v) → blk < w.heap.size → n ≤ cap →
      Calls Tryd.prog f ⟨.slice (some ⟨blk, off, none⟩) n cap :: more⟩ w fun e w' => e = .returned v ∧ Below w.heap.size w w') :
    Runs Tryd.prog f (.slice (some ⟨id, 0, none⟩) n c :: more) H (fun u G => u = v ∧ G = H) := by
  refine ⟨hen, fun w0 ι w args' h2 h3 => ?_⟩
  obtain ⟨v', ys, rfl, hv', hys⟩ := h3.inv_cons
  have := hmore hys
  subst this
  cases hv' with
  | sl _ _ _ _ L a' c' hi hn' hz hl' hx ha =>
    have hcne : c' ≠ 0 := by omega
    have ha := ha.resolve_right hcne
    subst ha
    rw [Nat.add_zero]
    obtain ⟨hlt, hcell⟩ := h2.listCells hi (getB_eq.1 hb) hfl
    refine (hcon w L.blk L.off c' h2.tab hcell hlt hn').mono fun e w' ⟨he, hb⟩ => ?_
    exact ⟨_, _, _, ι, he, ⟨rfl, rfl⟩, .flat hv, h2.after hb, .refl _ _, OCs.refl _ _, Nat.le_refl _⟩
theorem fm_str : ∀ (l : List (List UInt8)), (l.flatMap (ET.enc .str)) = l.map SV.str
  | [] => rfl
  | a :: l => by rw [List.flatMap_cons, fm_str l]; rfl
def s_join : Spec := fun args S => match args, S with
  | [.sl 0 0 n x, .str sep], [.arr .str l 1 true] => ⟨n = l.length ∧ (1 ≤ n ∧ n ≤ 1000000) ∧ (Lib.join l sep).length ≤ 140737488355328, .str (Lib.join l sep), [.arr .str l 1 true]⟩
  | _, _ => noSpec
theorem ok_join : SpecOk Tryd.prog 41 s_join := by
  intro args S h; unfold s_join at h ⊢; (split at h <;> first | exact False.elim h | skip)
  dsimp only at h ⊢
  rename_i n x sep l
  obtain ⟨rfl, ⟨h1, h2⟩, h3⟩ := h
  intro H ρ args' hD hd ha
  obtain ⟨v1, r1, rfl, k1, ha⟩ := ha.inv_cons
  obtain ⟨v2, r2, rfl, k2, ha⟩ := ha.inv_cons
  rw [ha.inv_nil]
  have hv2 : v2 = .string ⟨⟨sep⟩⟩ := by cases k2; rfl
  obtain ⟨id, w, kb, q1, q2, q3⟩ := hD.blk 0 _ rfl rfl
  obtain ⟨rfl, e2, e3, e4, e5⟩ := q3
  have hv1 : v1 = .slice (some ⟨id, 0, none⟩) l.length (l.length + x + 1) := by
    cases k1 with | sl _ _ _ _ id' w' hb' => rw [q1] at hb'; obtain ⟨rfl, rfl⟩ := Prod.mk.inj (Option.some.inj hb'); simp
  have hc : kb.cells = (l.flatMap (ET.enc .str)).map toV := LDR.fun2 e5 (map_toV (flat_all _) ρ)
  have hxs : ((l.map fun s => (⟨⟨s⟩⟩ : ByteArray)).map (·.data.toList)) = l := by
    rw [List.map_map]
    show List.map (fun s => s) l = l
    exact List.map_id' l
  have hfm := fm_str l
  have hrun := Runs_list (f := 41) (H := H) (id := id) (n := l.length) (c := l.length + x + 1) (b := kb) (more := [.string ⟨⟨sep⟩⟩]) (v := .string ⟨(Lib.join l sep).toArray⟩) q2 (by omega) e4 ⟨Tryd.f41, rfl, rfl, rfl⟩
    (fun hy => hy.flat_eq fun v hv => by simp at hv; subst hv; rfl) rfl ?_
  · rw [hv1, hv2]
    exact ⟨_, _, ρ, hrun, .str _, .refl hD hd⟩
  · intro W blk off cap ht hcell hlt hcap
    have := sh_strings_Join blk off cap (l.map fun s => (⟨⟨s⟩⟩ : ByteArray)) ⟨⟨sep⟩⟩ W (fun j y hy => by
      refine hcell j _ ?_
      rw [hc]
      rw [hfm, List.map_map, List.getElem?_map]
      rw [List.getElem?_map] at hy
      cases e : l[j]? with
      | none => rw [e] at hy; simp at hy
      | some s =>
        rw [e] at hy
        simp only [Option.map_some, Option.some.injEq] at hy
        rw [← hy]
        rfl) hlt (by simp; omega) (by simpa using hcap) (by rw [hxs]; exact h3)
    rw [hxs, List.length_map] at this
    exact this
end Go.Proofs.YtamachahlhlhlaaDoor.Eng
set_option linter.unusedVariables false
set_option linter.unusedSimpArgs false
namespace Go.Proofs.YtamachahlhlhlaaDoor.Eng
open Go Go.RowKit
set_option maxRecDepth 100000
/-- Valid fractions. -/
def allF (L : List (Int × Int)) : Bool := L.all fun a => fOk a.1 a.2
/-- A habit's bounds. -/
def guB (b u : Int) : Bool := decide ((-50 ≤ b ∧ b ≤ 50) ∧ 1 ≤ u ∧ u ≤ 20)
def s_guess : Spec := fun args S => match args, S with
  | [.agg [.int .i16 b, .int .i16 u, .bool up]], [] => ⟨(-32768 ≤ b ∧ b < 32768) ∧ -32768 ≤ u ∧ u < 32768, .bool (guB b u), []⟩
  | _, _ => noSpec
theorem ok_isGuess : SpecOk Tryd.prog 88 s_guess := by
  intro args S h; unfold s_guess at h ⊢; (split at h <;> first | exact False.elim h | skip)
  dsimp only at h ⊢
  refine funW tabOk (E := [(21, s_within)]) ⟨ok_within, trivial⟩ [] (k := 0) (fn := Tryd.f88) rfl rfl rfl rfl rfl rfl ?_
  (repeat' ((try (conv => whnf)); first | (with_reducible first | refine And.intro ?_ ?_ | refine WX.of ?_) | exact zc | ((with_reducible refine VC.mk ?_); exact zw) | (with_reducible first | refine splitT ?_ | refine splitF ?_) | ((with_reducible refine splitM.mk (fun hsm => ?_) (fun hsm => ?_)) <;> (try exact zx)) | ((with_reducible refine splitB.mk (fun h => ?_) (fun h => ?_)) <;> (try simp only [zs, ne_eq] at h) <;> (try simp (disch := omega) only [w64] at h) <;> (try exact zx)) | (with_reducible intro hz; (try exact absurd hz (Nat.succ_ne_zero _)))))
  all_goals (refine ⟨congrArg SV.bool ?_⟩; (try dsimp only); (try simp (disch := omega) only [w64]); rw [Bool.eq_iff_iff]; try (simp [guB]); try omega)
theorem ok_l06Guess : SpecOk Tryd.prog 54 s_guess := by
  intro args S h; unfold s_guess at h ⊢; (split at h <;> first | exact False.elim h | skip)
  dsimp only at h ⊢
  refine funW tabOk (E := [(16, s_within)]) ⟨ok_l00In, trivial⟩ [] (k := 0) (fn := Tryd.f54) rfl rfl rfl rfl rfl rfl ?_
  (repeat' ((try (conv => whnf)); first | (with_reducible first | refine And.intro ?_ ?_ | refine WX.of ?_) | exact zc | ((with_reducible refine VC.mk ?_); exact zw) | (with_reducible first | refine splitT ?_ | refine splitF ?_) | ((with_reducible refine splitM.mk (fun hsm => ?_) (fun hsm => ?_)) <;> (try exact zx)) | ((with_reducible refine splitB.mk (fun h => ?_) (fun h => ?_)) <;> (try simp only [zs, ne_eq] at h) <;> (try simp (disch := omega) only [w64] at h) <;> (try exact zx)) | (with_reducible intro hz; (try exact absurd hz (Nat.succ_ne_zero _)))))
  all_goals (refine ⟨congrArg SV.bool ?_⟩; (try dsimp only); (try simp (disch := omega) only [w64]); rw [Bool.eq_iff_iff]; try (simp [guB]); try omega)
def s_habit : Spec := fun args S => match args, S with
  | [.agg [.str nm, .int .i16 b, .int .i16 u, .bool up]], [] => ⟨True, .agg [.int .i16 b, .int .i16 u, .bool up], []⟩
  | _, _ => noSpec
theorem ok_habit : SpecOk Tryd.prog 89 s_habit := by
  intro args S h; unfold s_habit at h ⊢; (split at h <;> first | exact False.elim h | skip)
  dsimp only at h ⊢
  refine funW tabOk (E := []) trivial [] (k := 0) (fn := Tryd.f89) rfl rfl rfl rfl rfl rfl ?_
  (repeat' ((try (conv => whnf)); first | (with_reducible first | refine And.intro ?_ ?_ | refine WX.of ?_) | exact zc | ((with_reducible refine VC.mk ?_); exact zw) | (with_reducible first | refine splitT ?_ | refine splitF ?_) | ((with_reducible refine splitM.mk (fun hsm => ?_) (fun hsm => ?_)) <;> (try exact zx)) | ((with_reducible refine splitB.mk (fun h => ?_) (fun h => ?_)) <;> (try simp only [zs, ne_eq] at h) <;> (try simp (disch := omega) only [w64] at h) <;> (try exact zx)) | (with_reducible intro hz; (try exact absurd hz (Nat.succ_ne_zero _)))))
/-- A reader by its pointer. -/
def s_l06Habit : Spec := fun args S => match args, S with
  | [.ptr 0 i 0], [.arr (.prod .str (.prod (.int .i16) (.prod (.int .i16) .bool))) l sz wr] => ⟨i < l.length, .agg [.int .i16 ((l[i]?).getD ([], 0, 0, false)).2.1, .int .i16 ((l[i]?).getD ([], 0, 0, false)).2.2.1, .bool ((l[i]?).getD ([], 0, 0, false)).2.2.2], [.arr (.prod .str (.prod (.int .i16) (.prod (.int .i16) .bool))) l sz wr]⟩
  | _, _ => noSpec
theorem ok_l06Habit : SpecOk Tryd.prog 55 s_l06Habit := by
  intro args S h; unfold s_l06Habit at h ⊢; (split at h <;> first | exact False.elim h | skip)
  dsimp only at h ⊢
  rename_i i l sz wr
  obtain ⟨a, ha⟩ := get_some h
  refine funW tabOk (E := []) trivial [] (k := 1) (fn := Tryd.f55) rfl rfl rfl rfl rfl rfl ?_
  (repeat' ((try (conv => whnf)); first | (with_reducible first | refine And.intro ?_ ?_ | refine WX.of ?_) | exact zc | ((with_reducible refine VC.mk ?_); exact zw) | refine atL_p ha ?_ | (with_reducible first | refine splitT ?_ | refine splitF ?_) | ((with_reducible refine splitM.mk (fun hsm => ?_) (fun hsm => ?_)) <;> (try exact zx)) | ((with_reducible refine splitB.mk (fun h => ?_) (fun h => ?_)) <;> (try simp only [zs, ne_eq] at h) <;> (try simp (disch := omega) only [w64] at h) <;> (try exact zx)) | (with_reducible intro hz; (try exact absurd hz (Nat.succ_ne_zero _)))))
  exact ⟨by rw [ha]; rfl⟩
def gB (b u : Int) : Prop := (-50 ≤ b ∧ b ≤ 50) ∧ 1 ≤ u ∧ u ≤ 20
theorem gB_iff {b u : Int} : guB b u = true ↔ gB b u := by simp [guB, gB]
/-- A name of 1 to 12 letters. -/
def letB (c : UInt8) : Bool := decide (97 ≤ c.toNat ∧ c.toNat ≤ 122)
def wordB (s : List UInt8) : Bool := decide (1 ≤ s.length ∧ s.length ≤ 12) && s.all letB
def s_word : Spec := fun args S => match args, S with
  | [.str s], [] => ⟨s.length ≤ 9223372036854775807, .bool (wordB s), []⟩
  | _, _ => noSpec
theorem word_no {s : List UInt8} {i : Nat} {c : UInt8} (h : s[i]? = some c) (hc : letB c = false) : wordB s = false := by
  unfold wordB
  have : s.all letB = false := by
    rw [List.all_eq_false]
    exact ⟨c, List.mem_of_getElem? h, by simp [hc]⟩
  rw [this]; simp
theorem word_all {s : List UInt8} (h : ∀ (j : Nat) c, s[j]? = some c → letB c = true) : s.all letB = true := by
  rw [List.all_eq_true]
  intro c hc
  obtain ⟨j, hj⟩ := List.getElem?_of_mem hc
  exact h j c hj
theorem ok_isWord : SpecOk Tryd.prog 87 s_word := by
  intro args S h; unfold s_word at h ⊢; (split at h <;> first | exact False.elim h | skip)
  dsimp only at h ⊢
  rename_i s
  refine funW tabOk (E := [(21, s_within)]) ⟨ok_within, trivial⟩ [] (k := 0) (fn := Tryd.f87) rfl rfl rfl rfl rfl rfl ?_
  (repeat' ((try (conv => whnf)); first | (with_reducible first | refine And.intro ?_ ?_ | refine WX.of ?_) | exact zc | ((with_reducible refine VC.mk ?_); exact zw) | (with_reducible first | refine splitT ?_ | refine splitF ?_) | ((with_reducible refine splitM.mk (fun hsm => ?_) (fun hsm => ?_)) <;> (try exact zx)) | ((with_reducible refine splitB.mk (fun h => ?_) (fun h => ?_)) <;> (try simp only [zs, ne_eq] at h) <;> (try simp (disch := omega) only [w64] at h) <;> (try exact zx)) | (with_reducible intro hz; (try exact absurd hz (Nat.succ_ne_zero _)))))
  refine loopW tabOk (E := [(21, s_within)]) ⟨ok_within, trivial⟩ [] (σ := Nat) (fun i => [(0, .str s), (5, .int .i64 s.length), (6, .int .i64 i)]) (fun i => []) (fun i => s.length - i) (fun i => i ≤ s.length ∧ ∀ (j : Nat) c, j < i → s[j]? = some c → letB c = true) 0 ⟨Nat.zero_le _, fun j a hj => by omega⟩ ?_ ?_
  · (repeat' ((try (conv => whnf)); first | (with_reducible first | refine And.intro ?_ ?_ | refine WX.of ?_) | exact zc | ((with_reducible refine VC.mk ?_); exact zw) | (with_reducible first | refine splitT ?_ | refine splitF ?_) | ((with_reducible refine splitM.mk (fun hsm => ?_) (fun hsm => ?_)) <;> (try exact zx)) | ((with_reducible refine splitB.mk (fun h => ?_) (fun h => ?_)) <;> (try simp only [zs, ne_eq] at h) <;> (try simp (disch := omega) only [w64] at h) <;> (try exact zx)) | (with_reducible intro hz; (try exact absurd hz (Nat.succ_ne_zero _)))))
  · intro i ⟨hi, hp⟩
    by_cases hlt : i < s.length
    · obtain ⟨c, hc⟩ := get_some (l := s) (i := i) (by omega)
      (repeat' ((try (conv => whnf)); first | (with_reducible first | refine And.intro ?_ ?_ | refine WX.of ?_) | exact zc | ((with_reducible refine VC.mk ?_); exact zw) | refine atL_n hc ?_ | (with_reducible first | refine splitT ?_ | refine splitF ?_) | ((with_reducible refine splitM.mk (fun hsm => ?_) (fun hsm => ?_)) <;> (try exact zx)) | ((with_reducible refine splitB.mk (fun h => ?_) (fun h => ?_)) <;> (try simp only [zs, ne_eq] at h) <;> (try simp (disch := omega) only [w64] at h) <;> (try exact zx)) | (with_reducible intro hz; (try exact absurd hz (Nat.succ_ne_zero _)))))
      · exact ⟨by rw [word_no hc (by unfold letB; rw [decide_eq_false]; omega)]⟩
      · exact ⟨by rw [word_no hc (by unfold letB; rw [decide_eq_false]; omega)]⟩
      · refine ⟨i + 1, by omega, ⟨hlt, upto_step hc (by unfold letB; rw [decide_eq_true]; omega) hp⟩, ?_⟩
        (repeat' ((try (conv => whnf)); first | (with_reducible first | refine And.intro ?_ ?_ | refine WX.of ?_) | exact zc | ((with_reducible refine VC.mk ?_); exact zw) | (with_reducible first | refine splitT ?_ | refine splitF ?_) | ((with_reducible refine splitM.mk (fun hsm => ?_) (fun hsm => ?_)) <;> (try exact zx)) | ((with_reducible refine splitB.mk (fun h => ?_) (fun h => ?_)) <;> (try simp only [zs, ne_eq] at h) <;> (try simp (disch := omega) only [w64] at h) <;> (try exact zx)) | (with_reducible intro hz; (try exact absurd hz (Nat.succ_ne_zero _)))))
    · (repeat' ((try (conv => whnf)); first | (with_reducible first | refine And.intro ?_ ?_ | refine WX.of ?_) | exact zc | ((with_reducible refine VC.mk ?_); exact zw) | (with_reducible first | refine splitT ?_ | refine splitF ?_) | ((with_reducible refine splitM.mk (fun hsm => ?_) (fun hsm => ?_)) <;> (try exact zx)) | ((with_reducible refine splitB.mk (fun h => ?_) (fun h => ?_)) <;> (try simp only [zs, ne_eq] at h) <;> (try simp (disch := omega) only [w64] at h) <;> (try exact zx)) | (with_reducible intro hz; (try exact absurd hz (Nat.succ_ne_zero _)))))
      have ha := word_all fun j c hj => hp j c (by have := (List.getElem?_eq_some_iff.1 hj).1; omega) hj
      refine ⟨congrArg SV.bool ?_⟩
      unfold wordB; rw [ha, Bool.and_true, decide_eq_decide]; omega
theorem ok_l05Name : SpecOk Tryd.prog 53 s_word := by
  intro args S h; unfold s_word at h ⊢; (split at h <;> first | exact False.elim h | skip)
  dsimp only at h ⊢
  rename_i s
  refine funW tabOk (E := []) trivial [] (k := 0) (fn := Tryd.f53) rfl rfl rfl rfl rfl rfl ?_
  (repeat' ((try (conv => whnf)); first | (with_reducible first | refine And.intro ?_ ?_ | refine WX.of ?_) | exact zc | ((with_reducible refine VC.mk ?_); exact zw) | (with_reducible first | refine splitT ?_ | refine splitF ?_) | ((with_reducible refine splitM.mk (fun hsm => ?_) (fun hsm => ?_)) <;> (try exact zx)) | ((with_reducible refine splitB.mk (fun h => ?_) (fun h => ?_)) <;> (try simp only [zs, ne_eq] at h) <;> (try simp (disch := omega) only [w64] at h) <;> (try exact zx)) | (with_reducible intro hz; (try exact absurd hz (Nat.succ_ne_zero _)))))
  · refine ⟨congrArg SV.bool ?_⟩; unfold wordB; rw [decide_eq_false (by omega)]; rfl
  · refine ⟨congrArg SV.bool ?_⟩; unfold wordB; rw [decide_eq_false (by omega)]; rfl
  · refine loopW tabOk (E := []) trivial [] (σ := Nat) (fun i => [(0, .str s), (3, .int .i64 i)]) (fun i => []) (fun i => s.length - i) (fun i => i ≤ s.length ∧ ∀ (j : Nat) c, j < i → s[j]? = some c → letB c = true) 0 ⟨Nat.zero_le _, fun j a hj => by omega⟩ ?_ ?_
    · (repeat' ((try (conv => whnf)); first | (with_reducible first | refine And.intro ?_ ?_ | refine WX.of ?_) | exact zc | ((with_reducible refine VC.mk ?_); exact zw) | (with_reducible first | refine splitT ?_ | refine splitF ?_) | ((with_reducible refine splitM.mk (fun hsm => ?_) (fun hsm => ?_)) <;> (try exact zx)) | ((with_reducible refine splitB.mk (fun h => ?_) (fun h => ?_)) <;> (try simp only [zs, ne_eq] at h) <;> (try simp (disch := omega) only [w64] at h) <;> (try exact zx)) | (with_reducible intro hz; (try exact absurd hz (Nat.succ_ne_zero _)))))
    · intro i ⟨hi, hp⟩
      by_cases hlt : i < s.length
      · obtain ⟨c, hc⟩ := get_some (l := s) (i := i) (by omega)
        (repeat' ((try (conv => whnf)); first | (with_reducible first | refine And.intro ?_ ?_ | refine WX.of ?_) | exact zc | ((with_reducible refine VC.mk ?_); exact zw) | refine atL_n hc ?_ | (with_reducible first | refine splitT ?_ | refine splitF ?_) | ((with_reducible refine splitM.mk (fun hsm => ?_) (fun hsm => ?_)) <;> (try exact zx)) | ((with_reducible refine splitB.mk (fun h => ?_) (fun h => ?_)) <;> (try simp only [zs, ne_eq] at h) <;> (try simp (disch := omega) only [w64] at h) <;> (try exact zx)) | (with_reducible intro hz; (try exact absurd hz (Nat.succ_ne_zero _)))))
        · exact ⟨by rw [word_no hc (by unfold letB; rw [decide_eq_false]; omega)]⟩
        · exact ⟨by rw [word_no hc (by unfold letB; rw [decide_eq_false]; omega)]⟩
        · refine ⟨i + 1, by omega, ⟨hlt, upto_step hc (by unfold letB; rw [decide_eq_true]; omega) hp⟩, ?_⟩
          (repeat' ((try (conv => whnf)); first | (with_reducible first | refine And.intro ?_ ?_ | refine WX.of ?_) | exact zc | ((with_reducible refine VC.mk ?_); exact zw) | (with_reducible first | refine splitT ?_ | refine splitF ?_) | ((with_reducible refine splitM.mk (fun hsm => ?_) (fun hsm => ?_)) <;> (try exact zx)) | ((with_reducible refine splitB.mk (fun h => ?_) (fun h => ?_)) <;> (try simp only [zs, ne_eq] at h) <;> (try simp (disch := omega) only [w64] at h) <;> (try exact zx)) | (with_reducible intro hz; (try exact absurd hz (Nat.succ_ne_zero _)))))
      · (repeat' ((try (conv => whnf)); first | (with_reducible first | refine And.intro ?_ ?_ | refine WX.of ?_) | exact zc | ((with_reducible refine VC.mk ?_); exact zw) | (with_reducible first | refine splitT ?_ | refine splitF ?_) | ((with_reducible refine splitM.mk (fun hsm => ?_) (fun hsm => ?_)) <;> (try exact zx)) | ((with_reducible refine splitB.mk (fun h => ?_) (fun h => ?_)) <;> (try simp only [zs, ne_eq] at h) <;> (try simp (disch := omega) only [w64] at h) <;> (try exact zx)) | (with_reducible intro hz; (try exact absurd hz (Nat.succ_ne_zero _)))))
        have ha := word_all fun j c hj => hp j c (by have := (List.getElem?_eq_some_iff.1 hj).1; omega) hj
        refine ⟨congrArg SV.bool ?_⟩
        unfold wordB; rw [ha, Bool.and_true, decide_eq_true (by omega)]
/-- A valid reader. -/
def rdrB (nm : List UInt8) (b u : Int) : Bool := wordB nm && guB b u
def s_vReader : Spec := fun args S => match args, S with
  | [.agg [.str nm, .int .i16 b, .int .i16 u, .bool up]], [] => ⟨nm.length ≤ 9223372036854775807 ∧ (-32768 ≤ b ∧ b < 32768) ∧ -32768 ≤ u ∧ u < 32768, .bool (rdrB nm b u), []⟩
  | _, _ => noSpec
theorem ok_ValidReader : SpecOk Tryd.prog 63 s_vReader := by
  intro args S h; unfold s_vReader at h ⊢; (split at h <;> first | exact False.elim h | skip)
  dsimp only at h ⊢
  refine funW tabOk (E := [(87, s_word), (89, s_habit), (88, s_guess)]) ⟨ok_isWord, ok_habit, ok_isGuess, trivial⟩ [] (k := 0) (fn := Tryd.f63) rfl rfl rfl rfl rfl rfl ?_
  (repeat' ((try (conv => whnf)); first | (with_reducible first | refine And.intro ?_ ?_ | refine WX.of ?_) | exact zc | ((with_reducible refine VC.mk ?_); exact zw) | (with_reducible first | refine splitT ?_ | refine splitF ?_) | ((with_reducible refine splitM.mk (fun hsm => ?_) (fun hsm => ?_)) <;> (try exact zx)) | ((with_reducible refine splitB.mk (fun h => ?_) (fun h => ?_)) <;> (try simp only [zs, ne_eq] at h) <;> (try simp (disch := omega) only [w64] at h) <;> (try exact zx)) | (with_reducible intro hz; (try exact absurd hz (Nat.succ_ne_zero _)))))
  all_goals (refine ⟨?_⟩; simp [rdrB, h])
/-- A valid reader by its pointer. -/
def rdrOk (a : List UInt8 × Int × Int × Bool) : Bool := rdrB a.1 a.2.1 a.2.2.1
def rdrGood (a : List UInt8 × Int × Int × Bool) : Prop := a.1.length ≤ 9223372036854775807 ∧ (-32768 ≤ a.2.1 ∧ a.2.1 < 32768) ∧ -32768 ≤ a.2.2.1 ∧ a.2.2.1 < 32768
def s_l06Ok : Spec := fun args S => match args, S with
  | [.ptr 0 i 0], [.arr (.prod .str (.prod (.int .i16) (.prod (.int .i16) .bool))) l sz wr] => ⟨i < l.length ∧ ∀ (j : Nat) a, l[j]? = some a → rdrGood a, .bool (rdrOk ((l[i]?).getD ([], 0, 0, false))), [.arr (.prod .str (.prod (.int .i16) (.prod (.int .i16) .bool))) l sz wr]⟩
  | _, _ => noSpec
theorem ok_l06Ok : SpecOk Tryd.prog 35 s_l06Ok := by
  intro args S h; unfold s_l06Ok at h ⊢; (split at h <;> first | exact False.elim h | skip)
  dsimp only at h ⊢
  rename_i i l sz wr
  obtain ⟨⟨nm, b, u, up⟩, ha⟩ := get_some h.1
  have hg : rdrGood (nm, b, u, up) := h.2 _ _ ha
  have e : (l[i]?).getD ([], 0, 0, false) = (nm, b, u, up) := by rw [ha]; rfl
  rw [e]
  unfold rdrGood at hg
  dsimp only at hg
  refine funW tabOk (E := [(53, s_word), (55, s_l06Habit), (54, s_guess)]) ⟨ok_l05Name, ok_l06Habit, ok_l06Guess, trivial⟩ [] (k := 1) (fn := Tryd.f35) rfl rfl rfl rfl rfl rfl ?_
  (repeat' ((try (conv => whnf)); first | (with_reducible first | refine And.intro ?_ ?_ | refine WX.of ?_) | exact zc | ((with_reducible refine VC.mk ?_); exact zw) | refine atL_p ha ?_ | (with_reducible first | refine splitT ?_ | refine splitF ?_) | ((with_reducible refine splitM.mk (fun hsm => ?_) (fun hsm => ?_)) <;> (try exact zx)) | ((with_reducible refine splitB.mk (fun h => ?_) (fun h => ?_)) <;> (try simp only [zs, ne_eq] at h) <;> (try simp (disch := omega) only [w64] at h) <;> (try exact zx)) | (with_reducible intro hz; (try exact absurd hz (Nat.succ_ne_zero _)))))
  · refine ⟨?_⟩; rw [e]; exact hg.2
  · refine ⟨?_⟩; rw [e]; simp [rdrOk, rdrB, h]
  · refine ⟨?_⟩; simp [rdrOk, rdrB, h]
/-- A valid span. -/
def spOk (p q p' q' : Int) : Bool := fOk p q && fOk p' q' && decide (p * q' ≤ p' * q)
end Go.Proofs.YtamachahlhlhlaaDoor.Eng
set_option linter.unusedVariables false
set_option linter.unusedSimpArgs false
namespace Go.Proofs.YtamachahlhlhlaaDoor.Eng
open Go Go.RowKit
set_option maxRecDepth 100000
end Go.Proofs.YtamachahlhlhlaaDoor.Eng
set_option linter.unusedVariables false
set_option linter.unusedSimpArgs false
namespace Go.Proofs.YtamachahlhlhlaaDoor.Eng
open Go Go.RowKit
set_option maxRecDepth 100000
/-- Readers, all valid. -/
def allR (R : List (List UInt8 × Int × Int × Bool)) : Bool := R.all rdrOk
def s_nvR : Spec := fun args S => match args, S with
  | [.agg [.str nm, .int .i16 b, .int .i16 u, .bool up]], [] => ⟨nm.length ≤ 9223372036854775807 ∧ (-32768 ≤ b ∧ b < 32768) ∧ -32768 ≤ u ∧ u < 32768, .bool (!rdrB nm b u), []⟩
  | _, _ => noSpec
theorem ok_areReaders1 : SpecOk Tryd.prog 62 s_nvR := by
  intro args S h; unfold s_nvR at h ⊢; (split at h <;> first | exact False.elim h | skip)
  dsimp only at h ⊢
  refine funW tabOk (E := [(63, s_vReader)]) ⟨ok_ValidReader, trivial⟩ [] (k := 0) (fn := Tryd.f62) rfl rfl rfl rfl rfl rfl ?_
  (repeat' ((try (conv => whnf)); first | (with_reducible first | refine And.intro ?_ ?_ | refine WX.of ?_) | exact zc | ((with_reducible refine VC.mk ?_); exact zw) | (with_reducible first | refine splitT ?_ | refine splitF ?_) | ((with_reducible refine splitM.mk (fun hsm => ?_) (fun hsm => ?_)) <;> (try exact zx)) | ((with_reducible refine splitB.mk (fun h => ?_) (fun h => ?_)) <;> (try simp only [zs, ne_eq] at h) <;> (try simp (disch := omega) only [w64] at h) <;> (try exact zx)) | (with_reducible intro hz; (try exact absurd hz (Nat.succ_ne_zero _)))))
def nrdr (a : List UInt8 × Int × Int × Bool) : Bool := !rdrOk a
def s_idxR (g : Nat) : Spec := fun args S => match args, S with
  | [.sl 0 s n x, .fn g' []], [.arr (.prod .str (.prod (.int .i16) (.prod (.int .i16) .bool))) l 4 wr] => ⟨g' = g ∧ s + n ≤ l.length ∧ n ≤ 4611686018427387904 ∧ ∀ (j : Nat) a, l[j]? = some a → rdrGood a, .int .i64 (findI nrdr (seg l s n)), [.arr (.prod .str (.prod (.int .i16) (.prod (.int .i16) .bool))) l 4 wr]⟩
  | _, _ => noSpec
theorem ok_idxR : SpecOk Tryd.prog 86 (s_idxR 62) := by
  intro args S h; unfold s_idxR at h ⊢; (split at h <;> first | exact False.elim h | skip)
  dsimp only at h ⊢
  rename_i s n x g l wr
  obtain ⟨rfl, h1, h2, ho⟩ := h
  have hL := seg_len h1
  refine funW tabOk (E := [(62, s_nvR)]) ⟨ok_areReaders1, trivial⟩ [] (k := 1) (fn := Tryd.f86) rfl rfl rfl rfl rfl rfl ?_
  (repeat' ((try (conv => whnf)); first | (with_reducible first | refine And.intro ?_ ?_ | refine WX.of ?_) | exact zc | ((with_reducible refine VC.mk ?_); exact zw) | (with_reducible first | refine splitT ?_ | refine splitF ?_) | ((with_reducible refine splitM.mk (fun hsm => ?_) (fun hsm => ?_)) <;> (try exact zx)) | ((with_reducible refine splitB.mk (fun h => ?_) (fun h => ?_)) <;> (try simp only [zs, ne_eq] at h) <;> (try simp (disch := omega) only [w64] at h) <;> (try exact zx)) | (with_reducible intro hz; (try exact absurd hz (Nat.succ_ne_zero _)))))
  refine loopW tabOk (E := [(62, s_nvR)]) ⟨ok_areReaders1, trivial⟩ [] (σ := Nat) (fun i => [(0, .sl 0 s n x), (1, .fn 62 []), (7, .int .i64 n), (8, .int .i64 i)]) (fun i => [.arr (.prod .str (.prod (.int .i16) (.prod (.int .i16) .bool))) l 4 wr]) (fun i => n - i) (fun i => i ≤ n ∧ ∀ (j : Nat) a, j < i → (seg l s n)[j]? = some a → nrdr a = false) 0 ⟨Nat.zero_le _, fun j a hj => by omega⟩ ?_ ?_
  · (repeat' ((try (conv => whnf)); first | (with_reducible first | refine And.intro ?_ ?_ | refine WX.of ?_) | exact zc | ((with_reducible refine VC.mk ?_); exact zw) | (with_reducible first | refine splitT ?_ | refine splitF ?_) | ((with_reducible refine splitM.mk (fun hsm => ?_) (fun hsm => ?_)) <;> (try exact zx)) | ((with_reducible refine splitB.mk (fun h => ?_) (fun h => ?_)) <;> (try simp only [zs, ne_eq] at h) <;> (try simp (disch := omega) only [w64] at h) <;> (try exact zx)) | (with_reducible intro hz; (try exact absurd hz (Nat.succ_ne_zero _)))))
  · intro i ⟨hi, hp⟩
    by_cases hlt : i < n
    · obtain ⟨⟨nm, b, u, up⟩, ha⟩ := get_some (l := seg l s n) (i := i) (by omega)
      have hg := ho _ _ (seg_get ha).1
      unfold rdrGood at hg
      (repeat' ((try (conv => whnf)); first | (with_reducible first | refine And.intro ?_ ?_ | refine WX.of ?_) | exact zc | ((with_reducible refine VC.mk ?_); exact zw) | refine atL_i ha ?_ | (with_reducible first | refine splitT ?_ | refine splitF ?_) | ((with_reducible refine splitM.mk (fun hsm => ?_) (fun hsm => ?_)) <;> (try exact zx)) | ((with_reducible refine splitB.mk (fun h => ?_) (fun h => ?_)) <;> (try simp only [zs, ne_eq] at h) <;> (try simp (disch := omega) only [w64] at h) <;> (try exact zx)) | (with_reducible intro hz; (try exact absurd hz (Nat.succ_ne_zero _)))))
      · exact ⟨by rw [findI_some ha (by simpa [nrdr, rdrOk] using h) hp]⟩
      · refine ⟨i + 1, by omega, ⟨hlt, upto_step ha (by simpa [nrdr, rdrOk] using h) hp⟩, ?_⟩
        (repeat' ((try (conv => whnf)); first | (with_reducible first | refine And.intro ?_ ?_ | refine WX.of ?_) | exact zc | ((with_reducible refine VC.mk ?_); exact zw) | (with_reducible first | refine splitT ?_ | refine splitF ?_) | ((with_reducible refine splitM.mk (fun hsm => ?_) (fun hsm => ?_)) <;> (try exact zx)) | ((with_reducible refine splitB.mk (fun h => ?_) (fun h => ?_)) <;> (try simp only [zs, ne_eq] at h) <;> (try simp (disch := omega) only [w64] at h) <;> (try exact zx)) | (with_reducible intro hz; (try exact absurd hz (Nat.succ_ne_zero _)))))
    · (repeat' ((try (conv => whnf)); first | (with_reducible first | refine And.intro ?_ ?_ | refine WX.of ?_) | exact zc | ((with_reducible refine VC.mk ?_); exact zw) | (with_reducible first | refine splitT ?_ | refine splitF ?_) | ((with_reducible refine splitM.mk (fun hsm => ?_) (fun hsm => ?_)) <;> (try exact zx)) | ((with_reducible refine splitB.mk (fun h => ?_) (fun h => ?_)) <;> (try simp only [zs, ne_eq] at h) <;> (try simp (disch := omega) only [w64] at h) <;> (try exact zx)) | (with_reducible intro hz; (try exact absurd hz (Nat.succ_ne_zero _)))))
      exact ⟨by rw [findI_none fun j a hj => hp j a (by have := (List.getElem?_eq_some_iff.1 hj).1; omega) hj]⟩
def s_anyR (g : Nat) : Spec := fun args S => match args, S with
  | [.sl 0 s n x, .fn g' []], [.arr (.prod .str (.prod (.int .i16) (.prod (.int .i16) .bool))) l 4 wr] => ⟨g' = g ∧ s + n ≤ l.length ∧ n ≤ 4611686018427387904 ∧ ∀ (j : Nat) a, l[j]? = some a → rdrGood a, .bool ((seg l s n).any nrdr), [.arr (.prod .str (.prod (.int .i16) (.prod (.int .i16) .bool))) l 4 wr]⟩
  | _, _ => noSpec
theorem ok_anyR : SpecOk Tryd.prog 61 (s_anyR 62) := by
  intro args S h; unfold s_anyR at h ⊢; (split at h <;> first | exact False.elim h | skip)
  dsimp only at h ⊢
  rename_i s n x g l wr
  obtain ⟨rfl, h1, h2, ho⟩ := h
  refine funW tabOk (E := [(86, (s_idxR 62))]) ⟨ok_idxR, trivial⟩ [] (k := 1) (fn := Tryd.f61) rfl rfl rfl rfl rfl rfl ?_
  (repeat' ((try (conv => whnf)); first | (with_reducible first | refine And.intro ?_ ?_ | refine WX.of ?_) | exact zc | ((with_reducible refine VC.mk ?_); exact zw) | exact VC.mk ⟨rfl, h1, h2, ho⟩ | (with_reducible first | refine splitT ?_ | refine splitF ?_) | ((with_reducible refine splitM.mk (fun hsm => ?_) (fun hsm => ?_)) <;> (try exact zx)) | ((with_reducible refine splitB.mk (fun h => ?_) (fun h => ?_)) <;> (try simp only [zs, ne_eq] at h) <;> (try simp (disch := omega) only [w64] at h) <;> (try exact zx)) | (with_reducible intro hz; (try exact absurd hz (Nat.succ_ne_zero _)))))
  exact ⟨by rw [findI_any]⟩
def s_allR : Spec := fun args S => match args, S with
  | [.sl 0 s n x], [.arr (.prod .str (.prod (.int .i16) (.prod (.int .i16) .bool))) l 4 wr] => ⟨s + n ≤ l.length ∧ n ≤ 4611686018427387904 ∧ ∀ (j : Nat) a, l[j]? = some a → rdrGood a, .bool (allR (seg l s n)), [.arr (.prod .str (.prod (.int .i16) (.prod (.int .i16) .bool))) l 4 wr]⟩
  | _, _ => noSpec
theorem ok_areReaders : SpecOk Tryd.prog 40 s_allR := by
  intro args S h; unfold s_allR at h ⊢; (split at h <;> first | exact False.elim h | skip)
  dsimp only at h ⊢
  obtain ⟨h1, h2, ho⟩ := h
  refine funW tabOk (E := [(61, (s_anyR 62))]) ⟨ok_anyR, trivial⟩ [] (k := 1) (fn := Tryd.f40) rfl rfl rfl rfl rfl rfl ?_
  (repeat' ((try (conv => whnf)); first | (with_reducible first | refine And.intro ?_ ?_ | refine WX.of ?_) | exact zc | ((with_reducible refine VC.mk ?_); exact zw) | exact VC.mk ⟨rfl, h1, h2, ho⟩ | (with_reducible first | refine splitT ?_ | refine splitF ?_) | ((with_reducible refine splitM.mk (fun hsm => ?_) (fun hsm => ?_)) <;> (try exact zx)) | ((with_reducible refine splitB.mk (fun h => ?_) (fun h => ?_)) <;> (try simp only [zs, ne_eq] at h) <;> (try simp (disch := omega) only [w64] at h) <;> (try exact zx)) | (with_reducible intro hz; (try exact absurd hz (Nat.succ_ne_zero _)))))
  all_goals (refine ⟨?_⟩; unfold allR; rw [List.all_eq_not_any_not]; rfl)
theorem ok_l06Valid : SpecOk Tryd.prog 17 s_allR := by
  intro args S h; unfold s_allR at h ⊢; (split at h <;> first | exact False.elim h | skip)
  dsimp only at h ⊢
  rename_i s n x l wr
  obtain ⟨h1, h2, ho⟩ := h
  have hL := seg_len h1
  refine funW tabOk (E := [(35, s_l06Ok)]) ⟨ok_l06Ok, trivial⟩ [] (k := 1) (fn := Tryd.f17) rfl rfl rfl rfl rfl rfl ?_
  (repeat' ((try (conv => whnf)); first | (with_reducible first | refine And.intro ?_ ?_ | refine WX.of ?_) | exact zc | ((with_reducible refine VC.mk ?_); exact zw) | (with_reducible first | refine splitT ?_ | refine splitF ?_) | ((with_reducible refine splitM.mk (fun hsm => ?_) (fun hsm => ?_)) <;> (try exact zx)) | ((with_reducible refine splitB.mk (fun h => ?_) (fun h => ?_)) <;> (try simp only [zs, ne_eq] at h) <;> (try simp (disch := omega) only [w64] at h) <;> (try exact zx)) | (with_reducible intro hz; (try exact absurd hz (Nat.succ_ne_zero _)))))
  refine loopW tabOk (E := [(35, s_l06Ok)]) ⟨ok_l06Ok, trivial⟩ [] (σ := Nat) (fun i => [(0, .sl 0 s n x), (3, .int .i64 i)]) (fun i => [.arr (.prod .str (.prod (.int .i16) (.prod (.int .i16) .bool))) l 4 wr]) (fun i => n - i) (fun i => i ≤ n ∧ ∀ (j : Nat) a, j < i → (seg l s n)[j]? = some a → rdrOk a = true) 0 ⟨Nat.zero_le _, fun j a hj => by omega⟩ ?_ ?_
  · (repeat' ((try (conv => whnf)); first | (with_reducible first | refine And.intro ?_ ?_ | refine WX.of ?_) | exact zc | ((with_reducible refine VC.mk ?_); exact zw) | (with_reducible first | refine splitT ?_ | refine splitF ?_) | ((with_reducible refine splitM.mk (fun hsm => ?_) (fun hsm => ?_)) <;> (try exact zx)) | ((with_reducible refine splitB.mk (fun h => ?_) (fun h => ?_)) <;> (try simp only [zs, ne_eq] at h) <;> (try simp (disch := omega) only [w64] at h) <;> (try exact zx)) | (with_reducible intro hz; (try exact absurd hz (Nat.succ_ne_zero _)))))
  · intro i ⟨hi, hp⟩
    by_cases hlt : i < n
    · obtain ⟨a, ha⟩ := get_some (l := seg l s n) (i := i) (by omega)
      have hag := (seg_get ha).1
      have e : (l[s + ((i : Nat) : Int).toNat]?).getD ([], 0, 0, false) = a := by rw [Int.toNat_natCast, hag]; rfl
      (repeat' ((try (conv => whnf)); first | (with_reducible first | refine And.intro ?_ ?_ | refine WX.of ?_) | exact zc | ((with_reducible refine VC.mk ?_); exact zw) | ((with_reducible refine VC.mk ?_); (refine ⟨?_, ho⟩); (rw [Int.toNat_natCast]); (omega)) | (with_reducible first | refine splitT ?_ | refine splitF ?_) | ((with_reducible refine splitM.mk (fun hsm => ?_) (fun hsm => ?_)) <;> (try exact zx)) | ((with_reducible refine splitB.mk (fun h => ?_) (fun h => ?_)) <;> (try simp only [zs, ne_eq] at h) <;> (try simp (disch := omega) only [w64] at h) <;> (try exact zx)) | (with_reducible intro hz; (try exact absurd hz (Nat.succ_ne_zero _)))))
      · have h : rdrOk a = false := by rw [← e]; exact h
        exact ⟨by rw [show allR (seg l s n) = false from all_no ha h]⟩
      · have h : rdrOk a = true := by rw [← e]; exact h
        refine ⟨i + 1, by omega, ⟨hlt, upto_step ha h hp⟩, ?_⟩
        (repeat' ((try (conv => whnf)); first | (with_reducible first | refine And.intro ?_ ?_ | refine WX.of ?_) | exact zc | ((with_reducible refine VC.mk ?_); exact zw) | (with_reducible first | refine splitT ?_ | refine splitF ?_) | ((with_reducible refine splitM.mk (fun hsm => ?_) (fun hsm => ?_)) <;> (try exact zx)) | ((with_reducible refine splitB.mk (fun h => ?_) (fun h => ?_)) <;> (try simp only [zs, ne_eq] at h) <;> (try simp (disch := omega) only [w64] at h) <;> (try exact zx)) | (with_reducible intro hz; (try exact absurd hz (Nat.succ_ne_zero _)))))
    · (repeat' ((try (conv => whnf)); first | (with_reducible first | refine And.intro ?_ ?_ | refine WX.of ?_) | exact zc | ((with_reducible refine VC.mk ?_); exact zw) | (with_reducible first | refine splitT ?_ | refine splitF ?_) | ((with_reducible refine splitM.mk (fun hsm => ?_) (fun hsm => ?_)) <;> (try exact zx)) | ((with_reducible refine splitB.mk (fun h => ?_) (fun h => ?_)) <;> (try simp only [zs, ne_eq] at h) <;> (try simp (disch := omega) only [w64] at h) <;> (try exact zx)) | (with_reducible intro hz; (try exact absurd hz (Nat.succ_ne_zero _)))))
      exact ⟨by rw [show allR (seg l s n) = true from all_yes (n := i) (by omega) hp]⟩
end Go.Proofs.YtamachahlhlhlaaDoor.Eng
set_option linter.unusedVariables false
set_option linter.unusedSimpArgs false
namespace Go.Proofs.YtamachahlhlhlaaDoor.Eng
open Go Go.RowKit
set_option maxRecDepth 100000
end Go.Proofs.YtamachahlhlhlaaDoor.Eng
set_option linter.unusedVariables false
set_option linter.unusedSimpArgs false
namespace Go.Proofs.YtamachahlhlhlaaDoor.Eng
open Go Go.RowKit
set_option maxRecDepth 100000
theorem allR_at {R : List (List UInt8 × Int × Int × Bool)} (h : allR R = true) {i : Nat} {nm : List UInt8} {b u : Int} {up : Bool} (ha : R[i]? = some (nm, b, u, up)) : gB b u := by
  have := List.all_eq_true.1 h _ (List.mem_of_getElem? ha)
  simp only [rdrOk, rdrB, Bool.and_eq_true] at this
  exact gB_iff.1 this.2
def s_eqReader : Spec := fun args S => match args, S with
  | [.agg [.str nm, .int .i16 b, .int .i16 u, .bool up], .agg [.str nm', .int .i16 b', .int .i16 u', .bool up']], [] => ⟨True, .bool (decide (nm = nm') && decide (b = b') && decide (u = u') && decide (up = up')), []⟩
  | _, _ => noSpec
theorem ok_eqReader : SpecOk Tryd.prog 24 s_eqReader := by
  intro args S h; unfold s_eqReader at h ⊢; (split at h <;> first | exact False.elim h | skip)
  dsimp only at h ⊢
  refine funW tabOk (E := []) trivial [] (k := 0) (fn := Tryd.f24) rfl rfl rfl rfl rfl rfl ?_
  (repeat' ((try (conv => whnf)); first | (with_reducible first | refine And.intro ?_ ?_ | refine WX.of ?_) | exact zc | ((with_reducible refine VC.mk ?_); exact zw) | (with_reducible first | refine splitT ?_ | refine splitF ?_) | ((with_reducible refine splitM.mk (fun hsm => ?_) (fun hsm => ?_)) <;> (try exact zx)) | ((with_reducible refine splitB.mk (fun h => ?_) (fun h => ?_)) <;> (try simp only [zs, ne_eq] at h) <;> (try simp (disch := omega) only [w64] at h) <;> (try exact zx)) | (with_reducible intro hz; (try exact absurd hz (Nat.succ_ne_zero _)))))
  all_goals (refine ⟨?_⟩; simp_all)
def s_eqReaderS : Spec := fun args S => match args, S with
  | [.sl 0 s n x, .sl 1 s' n' x'], [.arr (.prod .str (.prod (.int .i16) (.prod (.int .i16) .bool))) l 4 wr, .arr (.prod .str (.prod (.int .i16) (.prod (.int .i16) .bool))) l' 4 wr'] => ⟨s + n ≤ l.length ∧ s' + n' ≤ l'.length ∧ n ≤ 4611686018427387904, .bool (decide (seg l s n = seg l' s' n')), [.arr (.prod .str (.prod (.int .i16) (.prod (.int .i16) .bool))) l 4 wr, .arr (.prod .str (.prod (.int .i16) (.prod (.int .i16) .bool))) l' 4 wr']⟩
  | [.nils, .sl 0 s' n' x'], [.arr (.prod .str (.prod (.int .i16) (.prod (.int .i16) .bool))) l' 4 wr'] => ⟨s' + n' ≤ l'.length ∧ n' = 0, .bool true, [.arr (.prod .str (.prod (.int .i16) (.prod (.int .i16) .bool))) l' 4 wr']⟩
  | _, _ => noSpec
theorem eqReaderS_nil {s x : Nat} {l : List (ET.T (.prod .str (.prod (.int .i16) (.prod (.int .i16) .bool))))} {wr : Bool} : RunsS Tryd.prog 7 [.nils, .sl 0 s 0 x] [.arr (.prod .str (.prod (.int .i16) (.prod (.int .i16) .bool))) l 4 wr] (.bool true) [.arr (.prod .str (.prod (.int .i16) (.prod (.int .i16) .bool))) l 4 wr] := by
  refine funW tabOk (E := [(24, s_eqReader)]) ⟨ok_eqReader, trivial⟩ [] (k := 1) (fn := Tryd.f7) rfl rfl rfl rfl rfl rfl ?_
  (repeat' ((try (conv => whnf)); first | (with_reducible first | refine And.intro ?_ ?_ | refine WX.of ?_) | exact zc | ((with_reducible refine VC.mk ?_); exact zw) | (with_reducible first | refine splitT ?_ | refine splitF ?_) | ((with_reducible refine splitM.mk (fun hsm => ?_) (fun hsm => ?_)) <;> (try exact zx)) | ((with_reducible refine splitB.mk (fun h => ?_) (fun h => ?_)) <;> (try simp only [zs, ne_eq] at h) <;> (try simp (disch := omega) only [w64] at h) <;> (try exact zx)) | (with_reducible intro hz; (try exact absurd hz (Nat.succ_ne_zero _)))))
  refine loop1 tabOk (E := [(24, s_eqReader)]) ⟨ok_eqReader, trivial⟩ [] ?_
  (repeat' ((try (conv => whnf)); first | (with_reducible first | refine And.intro ?_ ?_ | refine WX.of ?_) | exact zc | ((with_reducible refine VC.mk ?_); exact zw) | (with_reducible first | refine splitT ?_ | refine splitF ?_) | ((with_reducible refine splitM.mk (fun hsm => ?_) (fun hsm => ?_)) <;> (try exact zx)) | ((with_reducible refine splitB.mk (fun h => ?_) (fun h => ?_)) <;> (try simp only [zs, ne_eq] at h) <;> (try simp (disch := omega) only [w64] at h) <;> (try exact zx)) | (with_reducible intro hz; (try exact absurd hz (Nat.succ_ne_zero _)))))
theorem ok_eqReaderS : SpecOk Tryd.prog 7 s_eqReaderS := by
  intro args S h; unfold s_eqReaderS at h ⊢; (split at h <;> first | exact False.elim h | skip)
  dsimp only at h ⊢
  rotate_left 1
  · obtain ⟨h1, rfl⟩ := h
    exact eqReaderS_nil
  rename_i s n x s' n' x' l wr l' wr'
  have hL := seg_len h.1
  have hM := seg_len h.2.1
  refine funW tabOk (E := [(24, s_eqReader)]) ⟨ok_eqReader, trivial⟩ [] (k := 2) (fn := Tryd.f7) rfl rfl rfl rfl rfl rfl ?_
  (repeat' ((try (conv => whnf)); first | (with_reducible first | refine And.intro ?_ ?_ | refine WX.of ?_) | exact zc | ((with_reducible refine VC.mk ?_); exact zw) | (with_reducible first | refine splitT ?_ | refine splitF ?_) | ((with_reducible refine splitM.mk (fun hsm => ?_) (fun hsm => ?_)) <;> (try exact zx)) | ((with_reducible refine splitB.mk (fun h => ?_) (fun h => ?_)) <;> (try simp only [zs, ne_eq] at h) <;> (try simp (disch := omega) only [w64] at h) <;> (try exact zx)) | (with_reducible intro hz; (try exact absurd hz (Nat.succ_ne_zero _)))))
  · refine ⟨?_⟩
    rw [decide_eq_false]; intro e
    rw [e] at hL; omega
  · obtain rfl : n = n' := by omega
    refine loopW tabOk (E := [(24, s_eqReader)]) ⟨ok_eqReader, trivial⟩ [] (σ := Nat) (fun i => [(0, .sl 0 s n x), (1, .sl 1 s' n x'), (5, .int .i64 i)]) (fun i => [.arr (.prod .str (.prod (.int .i16) (.prod (.int .i16) .bool))) l 4 wr, .arr (.prod .str (.prod (.int .i16) (.prod (.int .i16) .bool))) l' 4 wr']) (fun i => n - i) (fun i => i ≤ n ∧ (seg l s n).take i = (seg l' s' n).take i) 0 ⟨Nat.zero_le _, by simp⟩ ?_ ?_
    · (repeat' ((try (conv => whnf)); first | (with_reducible first | refine And.intro ?_ ?_ | refine WX.of ?_) | exact zc | ((with_reducible refine VC.mk ?_); exact zw) | (with_reducible first | refine splitT ?_ | refine splitF ?_) | ((with_reducible refine splitM.mk (fun hsm => ?_) (fun hsm => ?_)) <;> (try exact zx)) | ((with_reducible refine splitB.mk (fun h => ?_) (fun h => ?_)) <;> (try simp only [zs, ne_eq] at h) <;> (try simp (disch := omega) only [w64] at h) <;> (try exact zx)) | (with_reducible intro hz; (try exact absurd hz (Nat.succ_ne_zero _)))))
    · intro i ⟨hi, hp⟩
      by_cases hlt : i < n
      · obtain ⟨⟨nm, b, u, up⟩, ha⟩ := get_some (l := seg l s n) (i := i) (by omega)
        obtain ⟨⟨nm', b', u', up'⟩, hb⟩ := get_some (l := seg l' s' n) (i := i) (by omega)
        (repeat' ((try (conv => whnf)); first | (with_reducible first | refine And.intro ?_ ?_ | refine WX.of ?_) | exact zc | ((with_reducible refine VC.mk ?_); exact zw) | refine atL_i ha ?_ | refine atL_i hb ?_ | (with_reducible first | refine splitT ?_ | refine splitF ?_) | ((with_reducible refine splitM.mk (fun hsm => ?_) (fun hsm => ?_)) <;> (try exact zx)) | ((with_reducible refine splitB.mk (fun h => ?_) (fun h => ?_)) <;> (try simp only [zs, ne_eq] at h) <;> (try simp (disch := omega) only [w64] at h) <;> (try exact zx)) | (with_reducible intro hz; (try exact absurd hz (Nat.succ_ne_zero _)))))
        · refine ⟨?_⟩; rw [decide_eq_false]; exact same_not ha hb (by simp at h ⊢; simp_all)
        · refine ⟨i + 1, by omega, ⟨hlt, same_step ha hb hp (by simp at h ⊢; simp_all)⟩, ?_⟩
          (repeat' ((try (conv => whnf)); first | (with_reducible first | refine And.intro ?_ ?_ | refine WX.of ?_) | exact zc | ((with_reducible refine VC.mk ?_); exact zw) | (with_reducible first | refine splitT ?_ | refine splitF ?_) | ((with_reducible refine splitM.mk (fun hsm => ?_) (fun hsm => ?_)) <;> (try exact zx)) | ((with_reducible refine splitB.mk (fun h => ?_) (fun h => ?_)) <;> (try simp only [zs, ne_eq] at h) <;> (try simp (disch := omega) only [w64] at h) <;> (try exact zx)) | (with_reducible intro hz; (try exact absurd hz (Nat.succ_ne_zero _)))))
      · (repeat' ((try (conv => whnf)); first | (with_reducible first | refine And.intro ?_ ?_ | refine WX.of ?_) | exact zc | ((with_reducible refine VC.mk ?_); exact zw) | (with_reducible first | refine splitT ?_ | refine splitF ?_) | ((with_reducible refine splitM.mk (fun hsm => ?_) (fun hsm => ?_)) <;> (try exact zx)) | ((with_reducible refine splitB.mk (fun h => ?_) (fun h => ?_)) <;> (try simp only [zs, ne_eq] at h) <;> (try simp (disch := omega) only [w64] at h) <;> (try exact zx)) | (with_reducible intro hz; (try exact absurd hz (Nat.succ_ne_zero _)))))
        obtain rfl : i = n := by omega
        refine ⟨?_⟩; rw [decide_eq_true]; exact same_end hL hM hp
abbrev RdT : Type := List UInt8 × Int × Int × Bool
end Go.Proofs.YtamachahlhlhlaaDoor.Eng
set_option linter.unusedVariables false
set_option linter.unusedSimpArgs false
namespace Go.Proofs.YtamachahlhlhlaaDoor.Eng
open Go Go.RowKit
set_option maxRecDepth 100000
/-- A reader's line; the lines of readers. -/
def rdTx (a : RdT) : List UInt8 := ((((((a.1 ++ [32]) ++ sgT a.2.1) ++ [32]) ++ dcl a.2.2.1) ++ [32]) ++ (if a.2.2.2 = true then [117, 112] else [100, 111, 119, 110])) ++ [10]
def rdsT (L : List RdT) : List UInt8 := L.flatMap rdTx
theorem rdTx_len {a : RdT} (h : rdrOk a = true) : (rdTx a).length ≤ 64 := by
  unfold rdrOk rdrB wordB at h
  simp only [Bool.and_eq_true, decide_eq_true_eq] at h
  have h1 := sgT_20 a.2.1
  have h2 := decT_19 a.2.2.1
  unfold rdTx
  split <;> simp <;> omega
theorem rdsT_s {L : List RdT} {i : Nat} {a : RdT} (h : L[i]? = some a) : rdsT (L.take (i + 1)) = rdsT (L.take i) ++ rdTx a := by
  obtain ⟨hi, rfl⟩ := List.getElem?_eq_some_iff.1 h
  unfold rdsT
  rw [List.take_succ_eq_append_getElem hi, List.flatMap_append]
  simp
theorem rdsT_len {L : List RdT} (h : allR L = true) : ∀ i, i ≤ L.length → (rdsT (L.take i)).length ≤ 64 * i
  | 0, _ => by simp [rdsT]
  | i + 1, hi => by
    obtain ⟨a, ha⟩ := get_some (l := L) (i := i) (by omega)
    rw [rdsT_s ha, List.length_append]
    have := rdTx_len (List.all_eq_true.1 h _ (List.mem_of_getElem? ha))
    have := rdsT_len h i (by omega)
    omega
def s_rtx1 : Spec := fun args S => match args, S with
  | [.sl 0 s n x], [.arr (.prod .str (.prod (.int .i16) (.prod (.int .i16) .bool))) l 4 wr] => ⟨(s + n ≤ l.length ∧ n ≤ 1000000 ∧ ∀ (j : Nat) a, l[j]? = some a → rdrGood a) ∧ allR (seg l s n) = true, .str (rdsT (seg l s n)), [.arr (.prod .str (.prod (.int .i16) (.prod (.int .i16) .bool))) l 4 wr]⟩
  | _, _ => noSpec
theorem ok_l06Text : SpecOk Tryd.prog 18 s_rtx1 := by
  intro args S h; unfold s_rtx1 at h ⊢; (split at h <;> first | exact False.elim h | skip)
  dsimp only at h ⊢
  rename_i s n x l wr
  obtain ⟨⟨h1, h2, ho⟩, hR⟩ := h
  have hL := seg_len h1
  refine funW tabOk (E := [(36, s_sgT), (37, s_dcl)]) ⟨ok_sgT, ok_dcl, trivial⟩ [(9, [(4, 1), (4, 2), (17, 0)])] (k := 1) (fn := Tryd.f18) rfl rfl rfl rfl rfl rfl ?_
  (repeat' ((try (conv => whnf)); first | (with_reducible first | refine And.intro ?_ ?_ | refine WX.of ?_) | exact zc | ((with_reducible refine VC.mk ?_); exact zw) | (with_reducible first | refine splitT ?_ | refine splitF ?_) | ((with_reducible refine splitM.mk (fun hsm => ?_) (fun hsm => ?_)) <;> (try exact zx)) | ((with_reducible refine splitB.mk (fun h => ?_) (fun h => ?_)) <;> (try simp only [zs, ne_eq] at h) <;> (try simp (disch := omega) only [w64] at h) <;> (try exact zx)) | (with_reducible intro hz; (try exact absurd hz (Nat.succ_ne_zero _)))))
  refine loopW tabOk (E := [(36, s_sgT), (37, s_dcl)]) ⟨ok_sgT, ok_dcl, trivial⟩ [(9, [(4, 1), (4, 2), (17, 0)])] (σ := Nat) (fun i => [(0, .sl 0 s n x), (3, .str (rdsT ((seg l s n).take i))), (4, .int .i64 i)]) (fun i => [.arr (.prod .str (.prod (.int .i16) (.prod (.int .i16) .bool))) l 4 wr]) (fun i => n - i) (fun i => i ≤ n) 0 (Nat.zero_le _) ?_ ?_
  · (repeat' ((try (conv => whnf)); first | (with_reducible first | refine And.intro ?_ ?_ | refine WX.of ?_) | exact zc | ((with_reducible refine VC.mk ?_); exact zw) | (with_reducible first | refine splitT ?_ | refine splitF ?_) | ((with_reducible refine splitM.mk (fun hsm => ?_) (fun hsm => ?_)) <;> (try exact zx)) | ((with_reducible refine splitB.mk (fun h => ?_) (fun h => ?_)) <;> (try simp only [zs, ne_eq] at h) <;> (try simp (disch := omega) only [w64] at h) <;> (try exact zx)) | (with_reducible intro hz; (try exact absurd hz (Nat.succ_ne_zero _)))))
  · intro i hi
    have hlen := rdsT_len hR i (by omega)
    by_cases hlt : i < n
    · obtain ⟨⟨nm, b, u, up⟩, ha⟩ := get_some (l := seg l s n) (i := i) (by omega)
      have hg := allR_at hR ha
      have hag := (seg_get ha).1
      have hgd := ho _ _ hag
      unfold rdrGood at hgd
      have e : (l[s + ((i : Nat) : Int).toNat]?).getD ([], 0, 0, false) = (nm, b, u, up) := by rw [Int.toNat_natCast, hag]; rfl
      have hrd : rdrOk (nm, b, u, up) = true := List.all_eq_true.1 hR _ (List.mem_of_getElem? ha)
      have hnm : nm.length ≤ 12 := by
        unfold rdrOk rdrB wordB at hrd
        simp only [Bool.and_eq_true, decide_eq_true_eq] at hrd
        omega
      have hwb : IntKind.i64.wrap b = b := w64 (by have := hgd.2.1; simp only at this; omega)
      have hwu : IntKind.i64.wrap u = u := w64 (by have := hgd.2.2; simp only at this; omega)
      have hub := hg.2
      have hbb := hg.1
      have l1 := sgT_20 b
      have l2 := decT_19 u
      cases up with
      | true =>
        (repeat' ((try (conv => whnf)); first | (with_reducible first | refine And.intro ?_ ?_ | refine WX.of ?_) | exact zc | ((with_reducible refine VC.mk ?_); exact zw) | with_reducible refine atL_i ha ?_ | (with_reducible first | refine splitT ?_ | refine splitF ?_) | ((with_reducible refine splitM.mk (fun hsm => ?_) (fun hsm => ?_)) <;> (try exact zx)) | ((with_reducible refine splitB.mk (fun h => ?_) (fun h => ?_)) <;> (try simp only [zs, ne_eq] at h) <;> (try simp (disch := omega) only [w64] at h) <;> (try exact zx)) | (with_reducible intro hz; (try exact absurd hz (Nat.succ_ne_zero _)))))
        all_goals first
          | (refine ⟨?_⟩; simp only [hwb, hwu]; omega)
          | (refine ⟨?_⟩; simp only [hwb, hwu, List.length_append]; simp; omega)
          | skip
        refine ⟨i + 1, by omega, hlt, ?_⟩
        rw [rdsT_s ha]
        (repeat' ((try (conv => whnf)); first | (with_reducible first | refine And.intro ?_ ?_ | refine WX.of ?_) | exact zc | ((with_reducible refine VC.mk ?_); exact zw) | (with_reducible first | refine splitT ?_ | refine splitF ?_) | ((with_reducible refine splitM.mk (fun hsm => ?_) (fun hsm => ?_)) <;> (try exact zx)) | ((with_reducible refine splitB.mk (fun h => ?_) (fun h => ?_)) <;> (try simp only [zs, ne_eq] at h) <;> (try simp (disch := omega) only [w64] at h) <;> (try exact zx)) | (with_reducible intro hz; (try exact absurd hz (Nat.succ_ne_zero _)))))
        all_goals (refine ⟨?_⟩; simp only [hwb, hwu]; rfl)
      | false =>
        (repeat' ((try (conv => whnf)); first | (with_reducible first | refine And.intro ?_ ?_ | refine WX.of ?_) | exact zc | ((with_reducible refine VC.mk ?_); exact zw) | with_reducible refine atL_i ha ?_ | (with_reducible first | refine splitT ?_ | refine splitF ?_) | ((with_reducible refine splitM.mk (fun hsm => ?_) (fun hsm => ?_)) <;> (try exact zx)) | ((with_reducible refine splitB.mk (fun h => ?_) (fun h => ?_)) <;> (try simp only [zs, ne_eq] at h) <;> (try simp (disch := omega) only [w64] at h) <;> (try exact zx)) | (with_reducible intro hz; (try exact absurd hz (Nat.succ_ne_zero _)))))
        all_goals first
          | (refine ⟨?_⟩; simp only [hwb, hwu]; omega)
          | (refine ⟨?_⟩; simp only [hwb, hwu, List.length_append]; simp; omega)
          | skip
        refine ⟨i + 1, by omega, hlt, ?_⟩
        rw [rdsT_s ha]
        (repeat' ((try (conv => whnf)); first | (with_reducible first | refine And.intro ?_ ?_ | refine WX.of ?_) | exact zc | ((with_reducible refine VC.mk ?_); exact zw) | (with_reducible first | refine splitT ?_ | refine splitF ?_) | ((with_reducible refine splitM.mk (fun hsm => ?_) (fun hsm => ?_)) <;> (try exact zx)) | ((with_reducible refine splitB.mk (fun h => ?_) (fun h => ?_)) <;> (try simp only [zs, ne_eq] at h) <;> (try simp (disch := omega) only [w64] at h) <;> (try exact zx)) | (with_reducible intro hz; (try exact absurd hz (Nat.succ_ne_zero _)))))
        all_goals (refine ⟨?_⟩; simp only [hwb, hwu]; rfl)
    · obtain rfl : i = n := by omega
      rw [List.take_of_length_le (by omega)]
      (repeat' ((try (conv => whnf)); first | (with_reducible first | refine And.intro ?_ ?_ | refine WX.of ?_) | exact zc | ((with_reducible refine VC.mk ?_); exact zw) | (with_reducible first | refine splitT ?_ | refine splitF ?_) | ((with_reducible refine splitM.mk (fun hsm => ?_) (fun hsm => ?_)) <;> (try exact zx)) | ((with_reducible refine splitB.mk (fun h => ?_) (fun h => ?_)) <;> (try simp only [zs, ne_eq] at h) <;> (try simp (disch := omega) only [w64] at h) <;> (try exact zx)) | (with_reducible intro hz; (try exact absurd hz (Nat.succ_ne_zero _)))))
def s_rtx : Spec := fun args S => match args, S with
  | [.sl 0 s n x], [.arr (.prod .str (.prod (.int .i16) (.prod (.int .i16) .bool))) l 4 wr] => ⟨(s + n ≤ l.length ∧ n ≤ 1048576) ∧ ∀ (j : Nat) a, l[j]? = some a → rdrGood a, .str (if (allR (seg l s n) && decide (n ≤ 12)) = true then rdsT (seg l s n) else []), [.arr (.prod .str (.prod (.int .i16) (.prod (.int .i16) .bool))) l 4 wr]⟩
  | _, _ => noSpec
theorem join4 (a b c d : List UInt8) : Lib.join [a, b, c, d] [32] = ((((((a ++ [32]) ++ b) ++ [32]) ++ c) ++ [32]) ++ d) := by
  simp [Lib.join, List.intercalate]
theorem rdTx_j {nm : List UInt8} {b u : Int} {up : Bool} (hu : 1 ≤ u) : rdTx (nm, b, u, up) = Lib.join [nm, sgT b, sgT u, if up = true then [117, 112] else [100, 111, 119, 110]] [32] ++ [10] := by
  rw [join4, show sgT u = dcl u from if_neg (by omega)]
  rfl
theorem ok_ReadersTextI : SpecOk Tryd.prog 23 s_rtx := by
  intro args S h; unfold s_rtx at h ⊢; (split at h <;> first | exact False.elim h | skip)
  dsimp only at h ⊢
  rename_i s n x l wr
  obtain ⟨⟨h1, h2⟩, ho⟩ := h
  have hL := seg_len h1
  refine funW tabOk (E := [(40, s_allR), (42, s_sgT), (41, s_join)]) ⟨ok_areReaders, ok_decI, ok_join, trivial⟩ [] (k := 1) (fn := Tryd.f23) rfl rfl rfl rfl rfl rfl ?_
  by_cases hR : allR (seg l s n) = true
  · by_cases hn : n ≤ 12
    · rw [if_pos (by simp [hR, hn])]
      (repeat' ((try (conv => whnf)); first | (with_reducible first | refine And.intro ?_ ?_ | refine WX.of ?_) | exact zc | ((with_reducible refine VC.mk ?_); exact zw) | ((with_reducible refine VC.mk ?_); exact ⟨h1, by omega, ho⟩) | ((with_reducible refine splitT_of ?_ ?_); (focus (simp only [hR, Bool.not_true, Bool.not_true, Bool.not_false, decide_true, decide_false]; done))) | ((with_reducible refine splitF_of ?_ ?_); (focus (simp only [hR, Bool.not_true, Bool.not_true, Bool.not_false, decide_true, decide_false]; done))) | (with_reducible first | refine splitT ?_ | refine splitF ?_) | ((with_reducible refine splitM.mk (fun hsm => ?_) (fun hsm => ?_)) <;> (try exact zx)) | ((with_reducible refine splitB.mk (fun h => ?_) (fun h => ?_)) <;> (try simp only [zs, ne_eq] at h) <;> (try simp (disch := omega) only [w64] at h) <;> (try exact zx)) | (with_reducible intro hz; (try exact absurd hz (Nat.succ_ne_zero _)))))
      all_goals try omega
      refine loopW tabOk (E := [(40, s_allR), (42, s_sgT), (41, s_join)]) ⟨ok_areReaders, ok_decI, ok_join, trivial⟩ [] (σ := Nat) (fun i => [(0, .sl 0 s n x), (3, .str (rdsT ((seg l s n).take i))), (15, .sl 0 s n x), (16, .int .i64 n), (17, .int .i64 i)]) (fun i => [.arr (.prod .str (.prod (.int .i16) (.prod (.int .i16) .bool))) l 4 wr]) (fun i => n - i) (fun i => i ≤ n) 0 (Nat.zero_le _) ?_ ?_
      · (repeat' ((try (conv => whnf)); first | (with_reducible first | refine And.intro ?_ ?_ | refine WX.of ?_) | exact zc | ((with_reducible refine VC.mk ?_); exact zw) | (with_reducible first | refine splitT ?_ | refine splitF ?_) | ((with_reducible refine splitM.mk (fun hsm => ?_) (fun hsm => ?_)) <;> (try exact zx)) | ((with_reducible refine splitB.mk (fun h => ?_) (fun h => ?_)) <;> (try simp only [zs, ne_eq] at h) <;> (try simp (disch := omega) only [w64] at h) <;> (try exact zx)) | (with_reducible intro hz; (try exact absurd hz (Nat.succ_ne_zero _)))))
      · intro i hi
        have hlen := rdsT_len hR i (by omega)
        by_cases hlt : i < n
        · obtain ⟨⟨nm, b, u, up⟩, ha⟩ := get_some (l := seg l s n) (i := i) (by omega)
          have hg := allR_at hR ha
          have hag := (seg_get ha).1
          have hgd := ho _ _ hag
          unfold rdrGood at hgd
          have hrd : rdrOk (nm, b, u, up) = true := List.all_eq_true.1 hR _ (List.mem_of_getElem? ha)
          have hnm : nm.length ≤ 12 := by
            unfold rdrOk rdrB wordB at hrd
            simp only [Bool.and_eq_true, decide_eq_true_eq] at hrd
            omega
          have hwb : IntKind.i64.wrap b = b := w64 (by have := hgd.2.1; simp only at this; omega)
          have hwu : IntKind.i64.wrap u = u := w64 (by have := hgd.2.2; simp only at this; omega)
          have hub := hg.2
          have hbb := hg.1
          have l1 := sgT_20 b
          have l2 := sgT_20 u
          cases up with
          | true =>
            have hJ := join4 nm (sgT b) (sgT u) [117, 112]
            have hJl : (Lib.join [nm, sgT b, sgT u, [117, 112]] [32]).length ≤ 1000 := by rw [hJ]; simp; omega
            have hJ2 : (rdsT ((seg l s n).take i)).length + (Lib.join [nm, sgT b, sgT u, [117, 112]] [32] ++ [10]).length ≤ 9223372036854775807 := by rw [List.length_append]; simp; omega
            (repeat' ((try (conv => whnf)); first | (with_reducible first | refine And.intro ?_ ?_ | refine WX.of ?_) | exact zc | ((with_reducible refine VC.mk ?_); exact zw) | with_reducible refine atL_i ha ?_ | (with_reducible first | refine splitT ?_ | refine splitF ?_) | ((with_reducible refine splitM.mk (fun hsm => ?_) (fun hsm => ?_)) <;> (try exact zx)) | ((with_reducible refine splitB.mk (fun h => ?_) (fun h => ?_)) <;> (try simp only [zs, ne_eq] at h) <;> (try simp (disch := omega) only [w64] at h) <;> (try exact zx)) | (with_reducible intro hz; (try exact absurd hz (Nat.succ_ne_zero _)))))
            all_goals first
              | (refine ⟨rfl, ⟨by omega, by omega⟩, ?_⟩; simp only [hwb, hwu]; exact Nat.le_trans hJl (by omega))
              | (refine ⟨?_⟩; simp only [hwb, hwu]; exact Nat.le_trans (Nat.add_le_add_right hJl _) (by simp))
              | (refine ⟨?_⟩; simp only [hwb, hwu]; exact hJ2)
              | skip
            refine ⟨i + 1, by omega, hlt, ?_⟩
            rw [rdsT_s ha]
            (repeat' ((try (conv => whnf)); first | (with_reducible first | refine And.intro ?_ ?_ | refine WX.of ?_) | exact zc | ((with_reducible refine VC.mk ?_); exact zw) | (with_reducible first | refine splitT ?_ | refine splitF ?_) | ((with_reducible refine splitM.mk (fun hsm => ?_) (fun hsm => ?_)) <;> (try exact zx)) | ((with_reducible refine splitB.mk (fun h => ?_) (fun h => ?_)) <;> (try simp only [zs, ne_eq] at h) <;> (try simp (disch := omega) only [w64] at h) <;> (try exact zx)) | (with_reducible intro hz; (try exact absurd hz (Nat.succ_ne_zero _)))))
            all_goals (refine ⟨?_⟩; simp only [hwb, hwu]; rw [rdTx_j hub.1]; rfl)
          | false =>
            have hJ := join4 nm (sgT b) (sgT u) [100, 111, 119, 110]
            have hJl : (Lib.join [nm, sgT b, sgT u, [100, 111, 119, 110]] [32]).length ≤ 1000 := by rw [hJ]; simp; omega
            have hJ2 : (rdsT ((seg l s n).take i)).length + (Lib.join [nm, sgT b, sgT u, [100, 111, 119, 110]] [32] ++ [10]).length ≤ 9223372036854775807 := by rw [List.length_append]; simp; omega
            (repeat' ((try (conv => whnf)); first | (with_reducible first | refine And.intro ?_ ?_ | refine WX.of ?_) | exact zc | ((with_reducible refine VC.mk ?_); exact zw) | with_reducible refine atL_i ha ?_ | (with_reducible first | refine splitT ?_ | refine splitF ?_) | ((with_reducible refine splitM.mk (fun hsm => ?_) (fun hsm => ?_)) <;> (try exact zx)) | ((with_reducible refine splitB.mk (fun h => ?_) (fun h => ?_)) <;> (try simp only [zs, ne_eq] at h) <;> (try simp (disch := omega) only [w64] at h) <;> (try exact zx)) | (with_reducible intro hz; (try exact absurd hz (Nat.succ_ne_zero _)))))
            all_goals first
              | (refine ⟨rfl, ⟨by omega, by omega⟩, ?_⟩; simp only [hwb, hwu]; exact Nat.le_trans hJl (by omega))
              | (refine ⟨?_⟩; simp only [hwb, hwu]; exact Nat.le_trans (Nat.add_le_add_right hJl _) (by simp))
              | (refine ⟨?_⟩; simp only [hwb, hwu]; exact hJ2)
              | skip
            refine ⟨i + 1, by omega, hlt, ?_⟩
            rw [rdsT_s ha]
            (repeat' ((try (conv => whnf)); first | (with_reducible first | refine And.intro ?_ ?_ | refine WX.of ?_) | exact zc | ((with_reducible refine VC.mk ?_); exact zw) | (with_reducible first | refine splitT ?_ | refine splitF ?_) | ((with_reducible refine splitM.mk (fun hsm => ?_) (fun hsm => ?_)) <;> (try exact zx)) | ((with_reducible refine splitB.mk (fun h => ?_) (fun h => ?_)) <;> (try simp only [zs, ne_eq] at h) <;> (try simp (disch := omega) only [w64] at h) <;> (try exact zx)) | (with_reducible intro hz; (try exact absurd hz (Nat.succ_ne_zero _)))))
            all_goals (refine ⟨?_⟩; simp only [hwb, hwu]; rw [rdTx_j hub.1]; rfl)
        · obtain rfl : i = n := by omega
          rw [List.take_of_length_le (by omega)]
          (repeat' ((try (conv => whnf)); first | (with_reducible first | refine And.intro ?_ ?_ | refine WX.of ?_) | exact zc | ((with_reducible refine VC.mk ?_); exact zw) | (with_reducible first | refine splitT ?_ | refine splitF ?_) | ((with_reducible refine splitM.mk (fun hsm => ?_) (fun hsm => ?_)) <;> (try exact zx)) | ((with_reducible refine splitB.mk (fun h => ?_) (fun h => ?_)) <;> (try simp only [zs, ne_eq] at h) <;> (try simp (disch := omega) only [w64] at h) <;> (try exact zx)) | (with_reducible intro hz; (try exact absurd hz (Nat.succ_ne_zero _)))))
    · rw [if_neg (by simp [hn])]
      (repeat' ((try (conv => whnf)); first | (with_reducible first | refine And.intro ?_ ?_ | refine WX.of ?_) | exact zc | ((with_reducible refine VC.mk ?_); exact zw) | ((with_reducible refine VC.mk ?_); exact ⟨h1, by omega, ho⟩) | ((with_reducible refine splitT_of ?_ ?_); (focus (simp only [hR, Bool.not_true, Bool.not_true, Bool.not_false, decide_true, decide_false]; done))) | ((with_reducible refine splitF_of ?_ ?_); (focus (simp only [hR, Bool.not_true, Bool.not_true, Bool.not_false, decide_true, decide_false]; done))) | (with_reducible first | refine splitT ?_ | refine splitF ?_) | ((with_reducible refine splitM.mk (fun hsm => ?_) (fun hsm => ?_)) <;> (try exact zx)) | ((with_reducible refine splitB.mk (fun h => ?_) (fun h => ?_)) <;> (try simp only [zs, ne_eq] at h) <;> (try simp (disch := omega) only [w64] at h) <;> (try exact zx)) | (with_reducible intro hz; (try exact absurd hz (Nat.succ_ne_zero _)))))
  · rw [if_neg (by simp [hR])]
    have hR : allR (seg l s n) = false := by simpa using hR
    (repeat' ((try (conv => whnf)); first | (with_reducible first | refine And.intro ?_ ?_ | refine WX.of ?_) | exact zc | ((with_reducible refine VC.mk ?_); exact zw) | ((with_reducible refine VC.mk ?_); exact ⟨h1, by omega, ho⟩) | ((with_reducible refine splitT_of ?_ ?_); (focus (simp only [hR, Bool.not_false, Bool.not_true, Bool.not_false, decide_true, decide_false]; done))) | ((with_reducible refine splitF_of ?_ ?_); (focus (simp only [hR, Bool.not_false, Bool.not_true, Bool.not_false, decide_true, decide_false]; done))) | (with_reducible first | refine splitT ?_ | refine splitF ?_) | ((with_reducible refine splitM.mk (fun hsm => ?_) (fun hsm => ?_)) <;> (try exact zx)) | ((with_reducible refine splitB.mk (fun h => ?_) (fun h => ?_)) <;> (try simp only [zs, ne_eq] at h) <;> (try simp (disch := omega) only [w64] at h) <;> (try exact zx)) | (with_reducible intro hz; (try exact absurd hz (Nat.succ_ne_zero _)))))
end Go.Proofs.YtamachahlhlhlaaDoor.Eng
set_option linter.unusedVariables false
set_option linter.unusedSimpArgs false
namespace Go.Proofs.YtamachahlhlhlaaDoor.Eng
open Go Go.RowKit
set_option maxRecDepth 100000
/-- The program's number of a text: 0 where it is none. -/
def nmb (s : List UInt8) : Int := match Lib.parseIntB 64 s with
  | .ok v => v
  | _ => 0
theorem pu_app : ∀ (a b : List UInt8) (acc k : Nat), Lib.parseUint10 acc a = .ok k → Lib.parseUint10 acc (a ++ b) = Lib.parseUint10 k b
  | [], b, acc, k, h => by
    simp only [Lib.parseUint10] at h
    injection h with h
    rw [h]; rfl
  | x :: a, b, acc, k, h => by
    simp only [List.cons_append, Lib.parseUint10] at h ⊢
    split at h
    · split at h
      · cases h
      · split at h
        · cases h
        · rename_i h1 h2 h3
          rw [if_pos h1, if_neg h2, if_neg h3]
          exact pu_app a b _ k h
    · cases h
theorem pu_decT : ∀ (k : Nat) (n : Int), 0 ≤ n → n < 10 ^ (k + 1) → n ≤ 9223372036854775807 → Lib.parseUint10 0 (decT k n) = .ok n.toNat
  | 0, n, h0, h1, h2 => by
    have h1 : n < 10 := by simpa using h1
    have e := dig_b (d := n % 10) (by omega) (by omega)
    simp only [decT, Lib.parseUint10]
    rw [e, if_pos (by omega), if_neg (by omega), if_neg (by omega)]
    congr 1
    omega
  | k + 1, n, h0, h1, h2 => by
    have e := dig_b (d := n % 10) (by omega) (by omega)
    simp only [decT]
    split
    · simp only [Lib.parseUint10]
      rw [e, if_pos (by omega), if_neg (by omega), if_neg (by omega)]
      congr 1
      omega
    · rw [pu_app _ _ 0 _ (pu_decT k (n / 10) (by omega) (by
        have : (10 : Int) ^ (k + 1 + 1) = 10 ^ (k + 1) * 10 := Int.pow_succ ..
        omega) (by omega))]
      simp only [Lib.parseUint10]
      rw [e, if_pos (by omega), if_neg (by omega), if_neg (by omega)]
      congr 1
      omega
theorem pm_dcl {n : Int} (h0 : 0 ≤ n) (h1 : n ≤ 9223372036854775807) : Lib.parseMag (dcl n) = .ok n.toNat := by
  unfold Lib.parseMag dcl
  rw [if_neg (decT_ne _ _)]
  exact pu_decT 18 n h0 (by
    have : (10 : Int) ^ (18 + 1) = 10000000000000000000 := by decide
    omega) h1
theorem nmb_sgT {n : Int} (h0 : -9223372036854775807 ≤ n) (h1 : n ≤ 9223372036854775807) : nmb (sgT n) = n := by
  unfold nmb
  rw [Lib.parseIntB_64]
  by_cases h : n < 0
  · rw [show sgT n = 45 :: dcl (-n) from if_pos h]
    unfold Lib.atoiAll
    simp only
    rw [if_pos (.inr (by decide)), pm_dcl (by omega) (by omega)]
    simp only
    rw [if_neg (by intro h; exact h.1 (by decide)), if_neg (by omega)]
    simp only
    rw [if_pos (by decide)]
    omega
  · rw [show sgT n = dcl n from if_neg h]
    have hd := dcl_b (n := n) (by omega) h1
    have hp := pm_dcl (n := n) (by omega) h1
    cases e : dcl n with
    | nil => exact absurd e (decT_ne 18 n)
    | cons c r =>
      have hc := hd c (by rw [e]; exact List.mem_cons_self)
      unfold dgB at hc
      rw [e] at hp
      unfold Lib.atoiAll
      simp only
      rw [if_neg (by omega), hp]
      simp only
      rw [if_neg (by omega), if_neg (by omega)]
      simp only
      rw [if_neg (by omega)]
      omega
end Go.Proofs.YtamachahlhlhlaaDoor.Eng
set_option linter.unusedVariables false
set_option linter.unusedSimpArgs false
namespace Go.Proofs.YtamachahlhlhlaaDoor.Eng
open Go Go.RowKit
set_option maxRecDepth 100000
def sh_laysC174_ren : Go.Shelf.Ren := ⟨fun | 174 => 39 | 247 => 59 | 245 => 60 | 287 => 81 | 279 => 82 | 280 => 83 | 281 => 84 | 282 => 85 | 321 => 100 | 322 => 101 | 316 => 102 | 171 => 104 | 205 => 103 | 243 => 113 | 246 => 92 | 283 => 107 | 284 => 108 | 285 => 109 | 286 => 110 | 129 => 115 | 317 => 114 | 318 => 116 | 319 => 117 | 320 => 118 | 337 => 119 | 338 => 120 | n => n, fun | 9 => 9 | 3 => 3 | 2 => 2 | 75 => 74 | 85 => 75 | 4 => 4 | 167 => 118 | 5 => 5 | 53 => 119 | 175 => 120 | 46 => 122 | 168 => 123 | 37 => 78 | 0 => 0 | 210 => 134 | 21 => 21 | 127 => 128 | 145 => 153 | 143 => 151 | 171 => 139 | 173 => 142 | 212 => 155 | 51 => 148 | 20 => 20 | 213 => 156 | 232 => 160 | 233 => 161 | 80 => 107 | n => n, fun | 15 => 1 | 16 => 2 | 17 => 5 | 18 => 6 | 19 => 7 | n => n⟩
theorem sh_laysC174 : Go.Proofs.LaysC.n174 Tryd.prog sh_laysC174_ren := {
  mixed := by kernel_rfl
  f129 := Tryd.func115.trans (congrArg some (by kernel_rfl))
  f171 := Tryd.func104.trans (congrArg some (by kernel_rfl))
  f174 := Tryd.func39.trans (congrArg some (by kernel_rfl))
  f205 := Tryd.func103.trans (congrArg some (by kernel_rfl))
  f243 := Tryd.func113.trans (congrArg some (by kernel_rfl))
  f245 := Tryd.func60.trans (congrArg some (by kernel_rfl))
  f246 := Tryd.func92.trans (congrArg some (by kernel_rfl))
  f247 := Tryd.func59.trans (congrArg some (by kernel_rfl))
  f279 := Tryd.func82.trans (congrArg some (by kernel_rfl))
  f280 := Tryd.func83.trans (congrArg some (by kernel_rfl))
  f281 := Tryd.func84.trans (congrArg some (by kernel_rfl))
  f282 := Tryd.func85.trans (congrArg some (by kernel_rfl))
  f283 := Tryd.func107.trans (congrArg some (by kernel_rfl))
  f284 := Tryd.func108.trans (congrArg some (by kernel_rfl))
  f285 := Tryd.func109.trans (congrArg some (by kernel_rfl))
  f286 := Tryd.func110.trans (congrArg some (by kernel_rfl))
  f287 := Tryd.func81.trans (congrArg some (by kernel_rfl))
  f316 := Tryd.func102.trans (congrArg some (by kernel_rfl))
  f317 := Tryd.func114.trans (congrArg some (by kernel_rfl))
  f318 := Tryd.func116.trans (congrArg some (by kernel_rfl))
  f319 := Tryd.func117.trans (congrArg some (by kernel_rfl))
  f320 := Tryd.func118.trans (congrArg some (by kernel_rfl))
  f321 := Tryd.func100.trans (congrArg some (by kernel_rfl))
  f322 := Tryd.func101.trans (congrArg some (by kernel_rfl))
  f337 := Tryd.func119.trans (congrArg some (by kernel_rfl))
  f338 := Tryd.func120.trans (congrArg some (by kernel_rfl))
  t0 := Tryd.underlying0
  a0 := Tryd.isAgg0
  z0 := Tryd.sizeOf0
  v0 := Tryd.zeroValue0
  t2 := Tryd.underlying2
  a2 := Tryd.isAgg2
  z2 := Tryd.sizeOf2
  v2 := Tryd.zeroValue2
  t3 := Tryd.underlying3
  a3 := Tryd.isAgg3
  z3 := Tryd.sizeOf3
  v3 := Tryd.zeroValue3
  t4 := Tryd.underlying4
  a4 := Tryd.isAgg4
  z4 := Tryd.sizeOf4
  v4 := Tryd.zeroValue4
  t5 := Tryd.underlying5
  a5 := Tryd.isAgg5
  z5 := Tryd.sizeOf5
  v5 := Tryd.zeroValue5
  t9 := Tryd.underlying9
  a9 := Tryd.isAgg9
  z9 := Tryd.sizeOf9
  v9 := Tryd.zeroValue9
  t20 := Tryd.underlying20
  a20 := Tryd.isAgg20
  z20 := Tryd.sizeOf20
  v20 := Tryd.zeroValue20
  t21 := Tryd.underlying21
  a21 := Tryd.isAgg21
  z21 := Tryd.sizeOf21
  v21 := Tryd.zeroValue21
  t37 := Tryd.underlying78
  a37 := Tryd.isAgg78
  z37 := Tryd.sizeOf78
  v37 := Tryd.zeroValue78
  t46 := Tryd.underlying122
  a46 := Tryd.isAgg122
  z46 := Tryd.sizeOf122
  v46 := Tryd.zeroValue122
  t51 := Tryd.underlying148
  a51 := Tryd.isAgg148
  z51 := Tryd.sizeOf148
  v51 := Tryd.zeroValue148
  t53 := Tryd.underlying119
  a53 := Tryd.isAgg119
  z53 := Tryd.sizeOf119
  v53 := Tryd.zeroValue119
  t75 := Tryd.underlying74
  a75 := Tryd.isAgg74
  z75 := Tryd.sizeOf74
  v75 := Tryd.zeroValue74
  t85 := Tryd.underlying75
  a85 := Tryd.isAgg75
  z85 := Tryd.sizeOf75
  v85 := Tryd.zeroValue75
  t127 := Tryd.underlying128
  a127 := Tryd.isAgg128
  z127 := Tryd.sizeOf128
  v127 := Tryd.zeroValue128
  t143 := Tryd.underlying151
  a143 := Tryd.isAgg151
  z143 := Tryd.sizeOf151
  v143 := Tryd.zeroValue151
  t145 := Tryd.underlying153
  a145 := Tryd.isAgg153
  z145 := Tryd.sizeOf153
  v145 := Tryd.zeroValue153
  t167 := Tryd.underlying118
  a167 := Tryd.isAgg118
  z167 := Tryd.sizeOf118
  v167 := Tryd.zeroValue118
  t168 := Tryd.underlying123
  a168 := Tryd.isAgg123
  z168 := Tryd.sizeOf123
  v168 := Tryd.zeroValue123
  t171 := Tryd.underlying139
  a171 := Tryd.isAgg139
  z171 := Tryd.sizeOf139
  v171 := Tryd.zeroValue139
  t173 := Tryd.underlying142
  a173 := Tryd.isAgg142
  z173 := Tryd.sizeOf142
  v173 := Tryd.zeroValue142
  t175 := Tryd.underlying120
  a175 := Tryd.isAgg120
  z175 := Tryd.sizeOf120
  v175 := Tryd.zeroValue120
  t210 := Tryd.underlying134
  a210 := Tryd.isAgg134
  z210 := Tryd.sizeOf134
  v210 := Tryd.zeroValue134
  t212 := Tryd.underlying155
  a212 := Tryd.isAgg155
  z212 := Tryd.sizeOf155
  v212 := Tryd.zeroValue155
  t213 := Tryd.underlying156
  a213 := Tryd.isAgg156
  z213 := Tryd.sizeOf156
  t232 := Tryd.underlying160
  a232 := Tryd.isAgg160
  z232 := Tryd.sizeOf160
  v232 := Tryd.zeroValue160
  t233 := Tryd.underlying161
  a233 := Tryd.isAgg161
  z233 := Tryd.sizeOf161
  v233 := Tryd.zeroValue161
  g15 := by kernel_rfl
  g16 := by kernel_rfl
  g17 := by kernel_rfl
  g18 := by kernel_rfl
  g19 := by kernel_rfl
  t80 := Tryd.underlying107
  a80 := Tryd.isAgg107
  z80 := Tryd.sizeOf107
  v80 := Tryd.zeroValue107
  i0 := by kernel_rfl
  i2 := by kernel_rfl
  i3 := by kernel_rfl
  i4 := by kernel_rfl
  i5 := by kernel_rfl
  i9 := by kernel_rfl
  i20 := by kernel_rfl
  i21 := by kernel_rfl
  i37 := by kernel_rfl
  i46 := by kernel_rfl
  i51 := by kernel_rfl
  i53 := by kernel_rfl
  i75 := by kernel_rfl
  i80 := by kernel_rfl
  i85 := by kernel_rfl
  i127 := by kernel_rfl
  i143 := by kernel_rfl
  i145 := by kernel_rfl
  i167 := by kernel_rfl
  i168 := by kernel_rfl
  i171 := by kernel_rfl
  i173 := by kernel_rfl
  i175 := by kernel_rfl
  i210 := by kernel_rfl
  i212 := by kernel_rfl
  i232 := by kernel_rfl
  i233 := by kernel_rfl
  m15 := by kernel_rfl
  m16 := by kernel_rfl
  m17 := by kernel_rfl
  m18 := by kernel_rfl
  m19 := by kernel_rfl
  c0 := by kernel_rfl
  c2 := by kernel_rfl
  c3 := by kernel_rfl
  c4 := by kernel_rfl
  c5 := by kernel_rfl
  c9 := by kernel_rfl
  c20 := by kernel_rfl
  c21 := by kernel_rfl
  c37 := by kernel_rfl
  c46 := by kernel_rfl
  c51 := by kernel_rfl
  c53 := by kernel_rfl
  c75 := by kernel_rfl
  c80 := by kernel_rfl
  c85 := by kernel_rfl
  c127 := by kernel_rfl
  c143 := by kernel_rfl
  c145 := by kernel_rfl
  c167 := by kernel_rfl
  c168 := by kernel_rfl
  c171 := by kernel_rfl
  c173 := by kernel_rfl
  c175 := by kernel_rfl
  c210 := by kernel_rfl
  c212 := by kernel_rfl
  c213 := by kernel_rfl
  c232 := by kernel_rfl
  c233 := by kernel_rfl }
open Go.RowKit in
/-- strconv.ParseInt(s, 10, 64), AT EVERY STRING THAT SPELLS AN int64 ('Lib.parseIntB 64 s.data.toList = .ok v'): v, AND NO ERROR. (LAID: no walk: one application.) -/
theorem sh_strconv_ParseInt_10_at64_ok (s : ByteArray) (hmax : s.size ≤ 9223372036854775806) (v : Int) (h : Lib.parseIntB 64 s.data.toList = .ok v) (w : World) :
    Calls Tryd.prog 39 #[.string s, .int .i64 10, .int .i64 64] w fun e w' => e = .returned (.tuple #[.int .i64 v, .nilIface]) ∧ (w' = w ∨ ∃ t, w' = Lib.bytesWorld w 5 t) := Any.strconv_ParseInt_10_at64_ok sh_laysC174 s hmax v h w
open Go.RowKit in
theorem sh_strconv_ParseInt_10_at64_syntax_var (s : ByteArray) (hlim : s.size ≤ 281474976710656) (h : Lib.parseIntB 64 s.data.toList = .«syntax») (tp : TypeId) (p : Value) (w : World) (hvar : w.var? Tryd.prog "strconv.ErrSyntax" = some #[.iface tp p]) :
    Calls Tryd.prog 39 #[.string s, .int .i64 10, .int .i64 64] w fun e w' => ∃ N, e = .returned (.tuple #[.int .i64 (0), .iface 123 (.pointer (some ⟨N, 0, none⟩))]) ∧ w.heap.size ≤ N ∧ w'.heap[N]? = some (.cells #[.string ⟨#[80, 97, 114, 115, 101, 73, 110, 116]⟩, .string s, .iface tp p] 134 (0, 0)) ∧ Below w.heap.size w w' := Any.strconv_ParseInt_10_at64_syntax_var sh_laysC174 s hlim h tp p w hvar
open Go.RowKit in
theorem sh_strconv_ParseInt_10_at64_range_var (s : ByteArray) (hlim : s.size ≤ 281474976710656) (h : Lib.parseIntB 64 s.data.toList = .range) (tp : TypeId) (p : Value) (w : World) (hvar : w.var? Tryd.prog "strconv.ErrRange" = some #[.iface tp p]) :
    Calls Tryd.prog 39 #[.string s, .int .i64 10, .int .i64 64] w fun e w' => ∃ N, e = .returned (.tuple #[.int .i64 (Lib.intSat 64 s.data.toList), .iface 123 (.pointer (some ⟨N, 0, none⟩))]) ∧ w.heap.size ≤ N ∧ w'.heap[N]? = some (.cells #[.string ⟨#[80, 97, 114, 115, 101, 73, 110, 116]⟩, .string s, .iface tp p] 134 (0, 0)) ∧ Below w.heap.size w w' := Any.strconv_ParseInt_10_at64_range_var sh_laysC174 s hlim h tp p w hvar
def sh_lays146_ren : Go.Shelf.Ren := ⟨fun | 146 => 20 | 221 => 38 | 268 => 56 | 138 => 57 | 143 => 58 | 195 => 77 | 197 => 78 | 218 => 79 | 219 => 80 | 260 => 95 | 217 => 96 | 225 => 97 | 224 => 98 | 267 => 99 | 266 => 111 | 314 => 112 | n => n, fun | 9 => 9 | 31 => 39 | 3 => 3 | 4 => 4 | 0 => 0 | 105 => 115 | 21 => 21 | 5 => 5 | 46 => 122 | 119 => 144 | 139 => 147 | 138 => 146 | 146 => 149 | 51 => 148 | n => n, fun | 1 => 0 | 3 => 3 | 4 => 4 | n => n⟩
theorem sh_lays146 : Go.Proofs.Lays.n146 Tryd.prog sh_lays146_ren := {
  mixed := by kernel_rfl
  f138 := Tryd.func57.trans (congrArg some (by kernel_rfl))
  f143 := Tryd.func58.trans (congrArg some (by kernel_rfl))
  f146 := Tryd.func20.trans (congrArg some (by kernel_rfl))
  f195 := Tryd.func77.trans (congrArg some (by kernel_rfl))
  f197 := Tryd.func78.trans (congrArg some (by kernel_rfl))
  f217 := Tryd.func96.trans (congrArg some (by kernel_rfl))
  f218 := Tryd.func79.trans (congrArg some (by kernel_rfl))
  f219 := Tryd.func80.trans (congrArg some (by kernel_rfl))
  f221 := Tryd.func38.trans (congrArg some (by kernel_rfl))
  f224 := Tryd.func98.trans (congrArg some (by kernel_rfl))
  f225 := Tryd.func97.trans (congrArg some (by kernel_rfl))
  f260 := Tryd.func95.trans (congrArg some (by kernel_rfl))
  f266 := Tryd.func111.trans (congrArg some (by kernel_rfl))
  f267 := Tryd.func99.trans (congrArg some (by kernel_rfl))
  f268 := Tryd.func56.trans (congrArg some (by kernel_rfl))
  f314 := Tryd.func112.trans (congrArg some (by kernel_rfl))
  t0 := Tryd.underlying0
  a0 := Tryd.isAgg0
  z0 := Tryd.sizeOf0
  v0 := Tryd.zeroValue0
  t3 := Tryd.underlying3
  a3 := Tryd.isAgg3
  z3 := Tryd.sizeOf3
  v3 := Tryd.zeroValue3
  t4 := Tryd.underlying4
  a4 := Tryd.isAgg4
  z4 := Tryd.sizeOf4
  v4 := Tryd.zeroValue4
  t5 := Tryd.underlying5
  a5 := Tryd.isAgg5
  z5 := Tryd.sizeOf5
  v5 := Tryd.zeroValue5
  t9 := Tryd.underlying9
  a9 := Tryd.isAgg9
  z9 := Tryd.sizeOf9
  v9 := Tryd.zeroValue9
  t21 := Tryd.underlying21
  a21 := Tryd.isAgg21
  z21 := Tryd.sizeOf21
  v21 := Tryd.zeroValue21
  t31 := Tryd.underlying39
  a31 := Tryd.isAgg39
  z31 := Tryd.sizeOf39
  v31 := Tryd.zeroValue39
  t46 := Tryd.underlying122
  a46 := Tryd.isAgg122
  z46 := Tryd.sizeOf122
  v46 := Tryd.zeroValue122
  t51 := Tryd.underlying148
  a51 := Tryd.isAgg148
  z51 := Tryd.sizeOf148
  v51 := Tryd.zeroValue148
  t105 := Tryd.underlying115
  a105 := Tryd.isAgg115
  z105 := Tryd.sizeOf115
  v105 := Tryd.zeroValue115
  t119 := Tryd.underlying144
  a119 := Tryd.isAgg144
  z119 := Tryd.sizeOf144
  t138 := Tryd.underlying146
  a138 := Tryd.isAgg146
  z138 := Tryd.sizeOf146
  v138 := Tryd.zeroValue146
  t139 := Tryd.underlying147
  a139 := Tryd.isAgg147
  z139 := Tryd.sizeOf147
  v139 := Tryd.zeroValue147
  t146 := Tryd.underlying149
  a146 := Tryd.isAgg149
  z146 := Tryd.sizeOf149
  v146 := Tryd.zeroValue149
  g1 := by kernel_rfl
  g3 := by kernel_rfl
  g4 := by kernel_rfl }
open Go.RowKit Go.Lib in
/-- strings.Split. (LAID: no walk: one application.) -/
theorem sh_strings_Split (s sep : ByteArray) (m : Int) (w : World) (hs : s.size < 4294967281) (hm : w.cell? ⟨0, 0, none⟩ = some (.int .i64 m)) (h1 : 1 ≤ sep.size) :
    Calls Tryd.prog 20 #[.string s, .string sep] w fun e w' =>
      e = .returned (.slice (some ⟨w.heap.size, 0, none⟩) (Lib.countB s sep + 1) (Lib.countB s sep + 1)) ∧ w' = w.alloc (.cells ((Lib.splitB sep 0 (Lib.countB s sep) s).map Value.string).toArray 9) := Any.strings_Split sh_lays146 (by kernel_rfl) s sep m w hs hm h1
/-- What the world holds of the library's variables. -/
def RdW (w : World) : Prop := (∃ m : Int, w.cell? ⟨0, 0, none⟩ = some (.int .i64 m)) ∧ (∃ (t : TypeId) (p : Value), w.var? Tryd.prog "strconv.ErrSyntax" = some #[.iface t p]) ∧ (∃ (t : TypeId) (p : Value), w.var? Tryd.prog "strconv.ErrRange" = some #[.iface t p])
theorem HRel.rd {w0 w : World} {ι : Ren} {H : Heap} (h : HRel w0 ι H w) : RdW w := by
  obtain ⟨_, ⟨m, hm⟩, ⟨t, p, h1⟩, ⟨t', p', h2⟩⟩ := h.glob.1
  refine ⟨⟨m, ?_⟩, ⟨t, p, var_below h.below h1⟩, ⟨t', p', var_below h.below h2⟩⟩
  rw [h.below.cell (World.block_lt_of_cell? _ _ hm)]
  exact hm
set_option maxRecDepth 100000 in
theorem number_calls (s : List UInt8) (hs : s.length ≤ 1048576) (w : World) (h : RdW w) : Calls Tryd.prog 22 #[.string ⟨⟨s⟩⟩] w fun e w' => e = .returned (.int .i64 (nmb s)) ∧ Below w.heap.size w w' := by
  obtain ⟨_, ⟨t, p, h1⟩, ⟨t', p', h2⟩⟩ := h
  have hsz : (⟨⟨s⟩⟩ : ByteArray).size = s.length := rfl
  cases e : Lib.parseIntB 64 s with
  | ok v =>
    have hn : nmb s = v := by unfold nmb; rw [e]
    rw [hn]
    go_enter Tryd.func22, Tryd.ntmps22
    go_wp2_with (go_at_call 39; refine (sh_strconv_ParseInt_10_at64_ok ⟨⟨s⟩⟩ (by rw [hsz]; omega) v e _).mono ?_; rintro e w' ⟨rfl, hw⟩)
    go_ret
    refine ⟨rfl, ?_⟩
    rcases hw with rfl | ⟨t, rfl⟩
    · exact Below.refl _ _
    · exact Lib.bytesWorld_below _ _ _
  | «syntax» =>
    have hn : nmb s = 0 := by unfold nmb; rw [e]
    rw [hn]
    go_enter Tryd.func22, Tryd.ntmps22
    go_wp2_with (go_at_call 39; refine (sh_strconv_ParseInt_10_at64_syntax_var ⟨⟨s⟩⟩ (by rw [hsz]; omega) e t p _ h1).mono ?_; rintro e w' ⟨N, rfl, _, _, hb⟩)
    go_ret
    exact ⟨rfl, hb⟩
  | range =>
    have hn : nmb s = 0 := by unfold nmb; rw [e]
    rw [hn]
    go_enter Tryd.func22, Tryd.ntmps22
    go_wp2_with (go_at_call 39; refine (sh_strconv_ParseInt_10_at64_range_var ⟨⟨s⟩⟩ (by rw [hsz]; omega) e t' p' _ h2).mono ?_; rintro e w' ⟨N, rfl, _, _, hb⟩)
    go_ret
    exact ⟨rfl, hb⟩
/-- A call of flat values that answers a flat value and leaves what was; what the world holds of the library's variables is told. -/
theorem Runs_flatR {f : FuncId} {H : Heap} {more : List Value} {v : Value} (hen : Enters Tryd.prog f) (hmore : ∀ {ι : Ren} {ys : List Value}, LRel ι more ys → ys = more) (hv : flatV v = true)
    (hcon : ∀ w, RdW w → Calls Tryd.prog f ⟨more⟩ w fun e w' => e = .returned v ∧ Below w.heap.size w w') :
    Runs Tryd.prog f more H (fun u G => u = v ∧ G = H) := by
  refine ⟨hen, fun w0 ι w args' h2 h3 => ?_⟩
  have := hmore h3
  subst this
  refine (hcon w h2.rd).mono fun e w' ⟨he, hb⟩ => ?_
  exact ⟨_, _, _, ι, he, ⟨rfl, rfl⟩, .flat hv, h2.after hb, .refl _ _, OCs.refl _ _, Nat.le_refl _⟩
theorem RunsS_flatR {f : FuncId} {args : List SV} {S : List SB} {v : SV} (hen : Enters Tryd.prog f) (ha : args.all flatS = true) (hv : flatS v = true)
    (hcon : ∀ w, RdW w → Calls Tryd.prog f ⟨args.map toV⟩ w fun e w' => e = .returned (toV v) ∧ Below w.heap.size w w') : RunsS Tryd.prog f args S v S := by
  intro H ρ args' hD hd h
  have e := LDR.fun2 h (map_toV ha ρ)
  subst e
  have hfl := (map_toV ha ρ).flat ha
  have h1 := map_toV (xs := [v]) (by simp [hv]) ρ
  have hvf : flatV (toV v) = true := (List.all_eq_true.1 (h1.flat (by simp [hv]))) _ (by simp)
  obtain ⟨u, r, e1, hdr, _⟩ := h1.inv_cons
  obtain ⟨rfl, _⟩ := List.cons.inj e1
  refine ⟨toV v, H, ρ, Runs_flatR hen (fun hl => (hl.flat_eq fun v hv => List.all_eq_true.1 hfl v hv)) hvf hcon, hdr, .refl hD hd⟩
def s_nmb : Spec := fun args S => match args, S with
  | [.str s], [] => ⟨s.length ≤ 1048576, .int .i64 (nmb s), []⟩
  | _, _ => noSpec
theorem ok_number : SpecOk Tryd.prog 22 s_nmb := by
  intro args S h; unfold s_nmb at h ⊢; (split at h <;> first | exact False.elim h | skip)
  dsimp only at h ⊢
  rename_i s
  exact RunsS_flatR ⟨Tryd.f22, rfl, rfl, rfl⟩ rfl rfl fun w hw => number_calls s h w hw
/-- A call of flat values that answers a new list. -/
theorem Runs_new {f : FuncId} {H : Heap} {more L : List Value} {e : TypeId} (hfl : ∀ v ∈ L, flatV v = true) (hen : Enters Tryd.prog f) (hmore : ∀ {ι : Ren} {ys : List Value}, LRel ι more ys → ys = more)
    (hcon : ∀ w, RdW w → Calls Tryd.prog f ⟨more⟩ w fun ex w' => ex = .returned (.slice (some ⟨w.heap.size, 0, none⟩) L.length L.length) ∧ w' = w.alloc (.cells L.toArray e)) :
    Runs Tryd.prog f more H (fun u G => u = .slice (some ⟨H.length, 0, none⟩) L.length (L.length + 0 + 1) ∧ G = H ++ [some ⟨L, 1, true, true⟩]) := by
  refine ⟨hen, fun w0 ι w args' h2 h3 => ?_⟩
  have := hmore h3
  subst this
  refine (hcon w h2.rd).mono fun ex w' ⟨he, hw⟩ => ?_
  subst hw
  have hp := h2.push ⟨L, 1, true, true⟩ L.toArray e (by simp) (fun j v hv => ⟨v, by simpa using hv, .flat (hfl v (List.mem_of_getElem? hv))⟩) (fun _ => hfl)
  refine ⟨_, _, _, _, he, ⟨rfl, rfl⟩, ?_, hp, upd_ext ι _ _, OCs.push _ H _ (Nat.le_refl _), by simp⟩
  exact .sl _ _ _ _ ⟨w.heap.size, 0, L.toArray.size, 1⟩ _ _ (by simp [upd]) (Nat.le_refl _) (by omega) (by omega) (by simp) (.inl rfl)
end Go.Proofs.YtamachahlhlhlaaDoor.Eng
set_option linter.unusedVariables false
set_option linter.unusedSimpArgs false
namespace Go.Proofs.YtamachahlhlhlaaDoor.Eng
open Go Go.RowKit
set_option maxRecDepth 100000
theorem ix_no {c : UInt8} : ∀ {s : List UInt8}, c ∉ s → Lib.index s [c] = -1
  | [], _ => rfl
  | b :: l, h => by
    have h1 : ¬ c = b := fun e => h (by rw [e]; exact List.mem_cons_self)
    have h2 := ix_no (c := c) (s := l) fun e => h (List.mem_cons_of_mem _ e)
    unfold Lib.index
    rw [if_neg (by simp [List.isPrefixOf, h1]), h2]
    rfl
theorem ix_app {c : UInt8} : ∀ {a b : List UInt8}, c ∉ a → Lib.index (a ++ c :: b) [c] = a.length
  | [], b, _ => by
    simp only [List.nil_append]
    unfold Lib.index
    rw [if_pos (by simp [List.isPrefixOf])]
    rfl
  | x :: a, b, h => by
    have h1 : ¬ c = x := fun e => h (by rw [e]; exact List.mem_cons_self)
    have h2 := ix_app (c := c) (a := a) (b := b) fun e => h (List.mem_cons_of_mem _ e)
    simp only [List.cons_append]
    unfold Lib.index
    rw [if_neg (by simp [List.isPrefixOf, h1]), h2, if_neg (by simp)]
    simp
theorem spl_cases (c : UInt8) : ∀ s : List UInt8, c ∉ s ∨ ∃ a b, s = a ++ c :: b ∧ c ∉ a
  | [] => .inl (by simp)
  | x :: r => by
    by_cases h : c = x
    · subst h; exact .inr ⟨[], r, rfl, by simp⟩
    · rcases spl_cases c r with h1 | ⟨a, b, rfl, h1⟩
      · exact .inl (by simp [h, h1])
      · exact .inr ⟨x :: a, b, rfl, by simp [h, h1]⟩
theorem spl_lib (c : UInt8) : ∀ (n : Nat) (s : List UInt8), s.length ≤ n → Lib.splitK [c] 0 (Lib.count s [c]) s = splL c s ∧ (splL c s).length = Lib.count s [c] + 1
  | 0, s, h => by
    have : s = [] := List.eq_nil_of_length_eq_zero (by omega)
    subst this
    exact ⟨rfl, rfl⟩
  | n + 1, s, h => by
    rcases spl_cases c s with h1 | ⟨a, b, rfl, h1⟩
    · rw [Lib.count_miss (ix_no h1), splL_no h1]
      exact ⟨rfl, rfl⟩
    · have hi := ix_app (b := b) h1
      have hc := Lib.count_hit (sub := [c]) (by simp) hi
      have hd : (a ++ c :: b).drop (a.length + [c].length) = b := by
        rw [List.drop_append]; simp
      rw [hd] at hc
      simp only [List.length_append, List.length_cons] at h
      obtain ⟨g1, g2⟩ := spl_lib c n b (by omega)
      rw [hc, splL_app h1, Nat.add_comm 1]
      refine ⟨?_, by simp [g2]⟩
      unfold Lib.splitK
      rw [if_neg (by rw [hi]; simp), hi]
      have e1 : (a ++ c :: b).take ((a.length : Int).toNat + 0) = a := by simp
      have e2 : (a ++ c :: b).drop ((a.length : Int).toNat + [c].length) = b := by rw [Int.toNat_natCast]; exact hd
      rw [e1, e2, g1]
def s_spl : Spec := fun args S => match args, S with
  | [.str s, .str [c]], [] => ⟨s.length ≤ 1048576, .sl 0 0 (splL c s).length 0, [.arr .str (splL c s) 1 true]⟩
  | _, _ => noSpec
theorem ok_Split : SpecOk Tryd.prog 20 s_spl := by
  intro args S h; unfold s_spl at h ⊢; (split at h <;> first | exact False.elim h | skip)
  dsimp only at h ⊢
  rename_i s c
  obtain ⟨g1, g2⟩ := spl_lib c s.length s (Nat.le_refl _)
  intro H ρ args' hD hd ha
  have e := LDR.fun2 ha (map_toV (xs := [.str s, .str [c]]) rfl ρ)
  subst e
  have hfl : ∀ v ∈ (splL c s).map fun x => toV (.str x), flatV v = true := fun v hv => by
    obtain ⟨x, _, rfl⟩ := List.mem_map.1 hv
    rfl
  have hrun := Runs_new (f := 20) (H := H) (more := [toV (.str s), toV (.str [c])]) (L := (splL c s).map fun x => toV (.str x)) (e := 9) hfl ⟨Tryd.f20, rfl, rfl, rfl⟩
    (fun hy => hy.flat_eq fun v hv => by
      simp only [List.mem_cons, List.not_mem_nil, or_false] at hv
      rcases hv with rfl | rfl <;> rfl) (fun w hw => by
      obtain ⟨⟨m, hm⟩, _⟩ := hw
      have := sh_strings_Split ⟨⟨s⟩⟩ ⟨⟨[c]⟩⟩ m w (by show s.length < _; omega) hm (by show 1 ≤ 1; omega)
      have e3 : (Lib.splitB ⟨⟨[c]⟩⟩ 0 (Lib.countB ⟨⟨s⟩⟩ ⟨⟨[c]⟩⟩) ⟨⟨s⟩⟩).map Value.string = (splL c s).map fun x => toV (.str x) := by
        have := Lib.splitB_data ⟨⟨[c]⟩⟩ 0 (Lib.countB ⟨⟨s⟩⟩ ⟨⟨[c]⟩⟩) ⟨⟨s⟩⟩
        have h9 : Lib.splitK [c] 0 (Lib.count s [c]) s = (Lib.splitB ⟨⟨[c]⟩⟩ 0 (Lib.countB ⟨⟨s⟩⟩ ⟨⟨[c]⟩⟩) ⟨⟨s⟩⟩).map (·.data.toList) := this.symm
        rw [← g1, h9, List.map_map]
        rfl
      rw [e3] at this
      rw [List.length_map, g2]
      exact this)
  rw [List.length_map] at hrun
  refine ⟨_, _, _, hrun, ?_, Step.push (w := 1) hD hd ?_⟩
  · have := DR.sl (ρ := updN ρ 0 (H.length, 1)) 0 0 (splL c s).length 0 H.length 1 (updN_self _ _ _)
    simpa using this
  · refine ⟨rfl, rfl, fun _ => rfl, rfl, ?_⟩
    have h5 := map_toV (xs := (splL c s).flatMap (ET.enc .str)) (flat_all _) (updN ρ 0 (H.length, 1))
    rw [fm_str, List.map_map] at h5
    rw [fm_str]
    exact h5
end Go.Proofs.YtamachahlhlhlaaDoor.Eng
set_option linter.unusedVariables false
set_option linter.unusedSimpArgs false
namespace Go.Proofs.YtamachahlhlhlaaDoor.Eng
open Go Go.RowKit
set_option maxRecDepth 100000
def wayT (up : Bool) : List UInt8 := if up = true then [117, 112] else [100, 111, 119, 110]
def rlnT (a : RdT) : List UInt8 := (((((a.1 ++ [32]) ++ sgT a.2.1) ++ [32]) ++ dcl a.2.2.1) ++ [32]) ++ wayT a.2.2.2
theorem rdTx_ln (a : RdT) : rdTx a = rlnT a ++ [10] := rfl
theorem word_b {s : List UInt8} (h : wordB s = true) {c : UInt8} (hc : letB c = false) : c ∉ s := fun hm => by
  unfold wordB at h
  rw [Bool.and_eq_true, List.all_eq_true] at h
  have := h.2 c hm
  rw [hc] at this
  cases this
theorem dg_no {s : List UInt8} {c : UInt8} (h : ∀ x ∈ s, dgB x ∨ x = 45) (hc : c.toNat < 45) : c ∉ s := fun hm => by
  rcases h c hm with h | h
  · unfold dgB at h; omega
  · subst h; exact absurd hc (by decide)
theorem rdr_b {a : RdT} (h : rdrOk a = true) : wordB a.1 = true ∧ (-50 ≤ a.2.1 ∧ a.2.1 ≤ 50) ∧ 1 ≤ a.2.2.1 ∧ a.2.2.1 ≤ 20 := by
  unfold rdrOk rdrB at h
  rw [Bool.and_eq_true] at h
  exact ⟨h.1, gB_iff.1 h.2⟩
theorem ln_words {a : RdT} (h : rdrOk a = true) : splL 32 (rlnT a) = [a.1, sgT a.2.1, dcl a.2.2.1, wayT a.2.2.2] := by
  obtain ⟨h1, h2, h3⟩ := rdr_b h
  have n1 : (32 : UInt8) ∉ a.1 := word_b h1 (by decide)
  have n2 : (32 : UInt8) ∉ sgT a.2.1 := dg_no (sgT_b (by omega) (by omega)) (by decide)
  have n3 : (32 : UInt8) ∉ dcl a.2.2.1 := dg_no (fun x hx => .inl (dcl_b (by omega) (by omega) x hx)) (by decide)
  have n4 : (32 : UInt8) ∉ wayT a.2.2.2 := by unfold wayT; split <;> decide
  have e : rlnT a = a.1 ++ 32 :: (sgT a.2.1 ++ 32 :: (dcl a.2.2.1 ++ 32 :: wayT a.2.2.2)) := by simp [rlnT]
  rw [e, splL_app n1, splL_app n2, splL_app n3, splL_no n4]
theorem ln_no {a : RdT} (h : rdrOk a = true) : (10 : UInt8) ∉ rlnT a := by
  obtain ⟨h1, h2, h3⟩ := rdr_b h
  have n1 : (10 : UInt8) ∉ a.1 := word_b h1 (by decide)
  have n2 : (10 : UInt8) ∉ sgT a.2.1 := dg_no (sgT_b (by omega) (by omega)) (by decide)
  have n3 : (10 : UInt8) ∉ dcl a.2.2.1 := dg_no (fun x hx => .inl (dcl_b (by omega) (by omega) x hx)) (by decide)
  have n4 : (10 : UInt8) ∉ wayT a.2.2.2 := by unfold wayT; split <;> decide
  have n5 : ¬ (10 : UInt8) = 32 := by decide
  simp [rlnT, n1, n2, n3, n4, n5]
theorem lines_of : ∀ {R : List RdT}, allR R = true → splL 10 (rdsT R) = R.map rlnT ++ [[]]
  | [], _ => rfl
  | a :: R, h => by
    unfold allR at h
    rw [List.all_cons, Bool.and_eq_true] at h
    have e : rdsT (a :: R) = rlnT a ++ 10 :: rdsT R := by
      show rdTx a ++ rdsT R = _
      rw [rdTx_ln]; simp
    rw [e, splL_app (ln_no h.1), lines_of h.2]
    rfl
/-- A line, as the reference and as the program read it. -/
def rlS (w : List (List UInt8)) : Option RdT := match w with
  | [a, b, c, d] => (sgnR b).bind fun x => (numR c).bind fun y => if (-50 ≤ x ∧ x ≤ 50) ∧ (1 ≤ y ∧ y ≤ 20) ∧ (d = wayT true ∨ d = wayT false) then some (a, x, y, decide (d = wayT true)) else none
  | _ => none
def rlP (w : List (List UInt8)) : Option RdT := match w with
  | [a, b, c, d] => if (-50 ≤ nmb b ∧ nmb b ≤ 50) ∧ 1 ≤ nmb c ∧ nmb c ≤ 20 then some (a, nmb b, nmb c, decide (d = wayT true)) else none
  | _ => none
theorem way_dec (up : Bool) : decide (wayT up = wayT true) = up := by cases up <;> rfl
theorem rdS_ln {a : RdT} (h : rdrOk a = true) : rlS (splL 32 (rlnT a)) = some a := by
  obtain ⟨h1, h2, h3⟩ := rdr_b h
  rw [ln_words h]
  unfold rlS
  simp only
  rw [sgnR_sgT (by omega) (by omega), numR_dcl (by omega) (by omega)]
  simp only [Option.bind_some]
  rw [if_pos ⟨h2, h3, by cases a.2.2.2 <;> simp⟩, way_dec]
theorem rdP_ln {a : RdT} (h : rdrOk a = true) : rlP (splL 32 (rlnT a)) = some a := by
  obtain ⟨h1, h2, h3⟩ := rdr_b h
  rw [ln_words h]
  unfold rlP
  simp only
  have e : nmb (dcl a.2.2.1) = a.2.2.1 := by
    have := nmb_sgT (n := a.2.2.1) (by omega) (by omega)
    rwa [show sgT a.2.2.1 = dcl a.2.2.1 from if_neg (by omega)] at this
  rw [nmb_sgT (by omega) (by omega), e, if_pos ⟨h2, h3⟩, way_dec]
/-- All lines. -/
def allO {α β : Type} (f : α → Option β) : List α → Option (List β)
  | [] => some []
  | a :: r => match f a with
    | none => none
    | some b => match allO f r with
      | none => none
      | some s => some (b :: s)
theorem allO_map {f : List UInt8 → Option RdT} (hf : ∀ a, rdrOk a = true → f (rlnT a) = some a) : ∀ {R : List RdT}, allR R = true → allO f (R.map rlnT) = some R
  | [], _ => rfl
  | a :: R, h => by
    unfold allR at h
    rw [List.all_cons, Bool.and_eq_true] at h
    simp only [List.map_cons, allO]
    rw [hf a h.1, allO_map hf h.2]
theorem allO_len {α β : Type} {f : α → Option β} : ∀ {l : List α} {r : List β}, allO f l = some r → r.length = l.length
  | [], r, h => by simp only [allO, Option.some.injEq] at h; subst h; rfl
  | a :: l, r, h => by
    simp only [allO] at h
    split at h
    · cases h
    · split at h
      · cases h
      · rename_i s hs
        simp only [Option.some.injEq] at h
        subst h
        simp [allO_len hs]
/-- What the reference and the program make of a text. -/
def rrS (t : List UInt8) : Option (List RdT) :=
  if (splL 10 t).getLast? = some [] ∧ (splL 10 t).length ≤ 13 then match allO (fun l => rlS (splL 32 l)) (splL 10 t).dropLast with
    | some R => if allR R = true ∧ rdsT R = t then some R else none
    | none => none
  else none
def rrP (t : List UInt8) : Option (List RdT) :=
  if (splL 10 t).getLast? = some [] ∧ (splL 10 t).length ≤ 13 then match allO (fun l => rlP (splL 32 l)) (splL 10 t).dropLast with
    | some R => if (if (allR R && decide (R.length ≤ 12)) = true then rdsT R else []) = t then some R else none
    | none => none
  else none
theorem rr_of {R : List RdT} (h : allR R = true) (hn : R.length ≤ 12) : rrS (rdsT R) = some R ∧ rrP (rdsT R) = some R := by
  have e := lines_of h
  have e1 : (splL 10 (rdsT R)).getLast? = some [] := by rw [e]; simp
  have e2 : (splL 10 (rdsT R)).length ≤ 13 := by rw [e]; simp; omega
  have e3 : (splL 10 (rdsT R)).dropLast = R.map rlnT := by rw [e]; simp
  constructor
  · unfold rrS
    rw [if_pos ⟨e1, e2⟩, e3, allO_map (fun a ha => rdS_ln ha) h]
    simp only
    rw [if_pos ⟨h, trivial⟩]
  · unfold rrP
    rw [if_pos ⟨e1, e2⟩, e3, allO_map (fun a ha => rdP_ln ha) h]
    simp only
    rw [if_pos (by rw [h, decide_eq_true hn]; rfl)]
theorem rrS_to {t : List UInt8} {R : List RdT} (h : rrS t = some R) : allR R = true ∧ R.length ≤ 12 ∧ t = rdsT R := by
  unfold rrS at h
  split at h
  · rename_i h1
    split at h
    · rename_i R' hR
      split at h
      · rename_i h2
        injection h with h
        subst h
        have := allO_len hR
        rw [List.length_dropLast] at this
        exact ⟨h2.1, by omega, h2.2.symm⟩
      · cases h
    · cases h
  · cases h
theorem rrP_to {t : List UInt8} {R : List RdT} (h : rrP t = some R) : allR R = true ∧ R.length ≤ 12 ∧ t = rdsT R := by
  unfold rrP at h
  by_cases h1 : (splL 10 t).getLast? = some [] ∧ (splL 10 t).length ≤ 13
  · rw [if_pos h1] at h
    cases hR : allO (fun l => rlP (splL 32 l)) (splL 10 t).dropLast with
    | none => rw [hR] at h; cases h
    | some R' =>
      rw [hR] at h
      simp only at h
      by_cases h2 : (if (allR R' && decide (R'.length ≤ 12)) = true then rdsT R' else []) = t
      · rw [if_pos h2] at h
        injection h with h
        subst h
        have hl := allO_len hR
        rw [List.length_dropLast] at hl
        by_cases hb : (allR R' && decide (R'.length ≤ 12)) = true
        · rw [if_pos hb] at h2
          rw [Bool.and_eq_true, decide_eq_true_eq] at hb
          exact ⟨hb.1, hb.2, h2.symm⟩
        · rw [if_neg hb] at h2
          subst h2
          have h0 : R' = [] := List.eq_nil_of_length_eq_zero (by rw [hl]; rfl)
          subst h0
          exact absurd rfl hb
      · rw [if_neg h2] at h; cases h
  · rw [if_neg h1] at h; cases h
theorem rr_same (t : List UInt8) : rrP t = rrS t := by
  cases hS : rrS t with
  | some R =>
    obtain ⟨h1, h2, rfl⟩ := rrS_to hS
    exact (rr_of h1 h2).2
  | none =>
    cases hP : rrP t with
    | none => rfl
    | some R =>
      obtain ⟨h1, h2, rfl⟩ := rrP_to hP
      rw [(rr_of h1 h2).1] at hS
      cases hS
end Go.Proofs.YtamachahlhlhlaaDoor.Eng
set_option linter.unusedVariables false
set_option linter.unusedSimpArgs false
namespace Go.Proofs.YtamachahlhlhlaaDoor.Eng
open Go Go.RowKit
set_option maxRecDepth 100000
theorem splL_len (c : UInt8) : ∀ s, (splL c s).length ≤ s.length + 1
  | [] => by simp [splL]
  | x :: r => by
    have := splL_len c r
    simp only [splL]
    split
    · simp; exact this
    · split
      · rename_i h t e
        rw [e] at this
        simp at this ⊢
        omega
      · simp
def s_lines : Spec := fun args S => match args, S with
  | [.str t], [] => ⟨t.length ≤ 1048576 ∧ t ≠ [], .tup [.sl 0 0 ((splL 10 t).length - 1) 1, .bool (decide ((splL 10 t).getLast? = some []))], [.arr .str (splL 10 t) 1 true]⟩
  | _, _ => noSpec
theorem ok_lines : SpecOk Tryd.prog 19 s_lines := by
  intro args S h; unfold s_lines at h ⊢; (split at h <;> first | exact False.elim h | skip)
  dsimp only at h ⊢
  rename_i t
  obtain ⟨h1, h2⟩ := h
  have hne := splL_ne 10 t
  have hl : 1 ≤ (splL 10 t).length := by
    cases e : splL 10 t with
    | nil => exact absurd e hne
    | cons a r => simp
  have hl2 := splL_len 10 t
  have hw : IntKind.i64.wrap (((splL 10 t).length : Int) - 1) = ((splL 10 t).length : Int) - 1 := w64 (by omega)
  have hix : 0 + (IntKind.i64.wrap (((splL 10 t).length : Int) - 1)).toNat = (splL 10 t).length - 1 := by rw [hw]; omega
  obtain ⟨a, ha⟩ := get_some (l := splL 10 t) (i := (splL 10 t).length - 1) (by omega)
  have hgl : (splL 10 t).getLast? = some a := by rw [List.getLast?_eq_getElem?]; exact ha
  refine funW tabOk (E := [(20, s_spl)]) ⟨ok_Split, trivial⟩ [] (k := 0) (fn := Tryd.f19) rfl rfl rfl rfl rfl rfl ?_
  (repeat' ((try (conv => whnf)); first | (with_reducible first | refine And.intro ?_ ?_ | refine WX.of ?_) | exact zc | ((with_reducible refine VC.mk ?_); exact zw) | ((with_reducible refine splitT_of ?_ ?_); (focus (simp only [decide_eq_false h2, Bool.not_true, Bool.not_false, decide_true, decide_false]; done))) | ((with_reducible refine splitF_of ?_ ?_); (focus (simp only [decide_eq_false h2, Bool.not_true, Bool.not_false, decide_true, decide_false]; done))) | with_reducible refine atL_e hix ha ?_ | ((with_reducible refine VC.mk ?_); (rw [hw]); (refine ⟨?_, ?_⟩ <;> omega)) | (with_reducible first | refine splitT ?_ | refine splitF ?_) | ((with_reducible refine splitM.mk (fun hsm => ?_) (fun hsm => ?_)) <;> (try exact zx)) | ((with_reducible refine splitB.mk (fun h => ?_) (fun h => ?_)) <;> (try simp only [zs, ne_eq] at h) <;> (try simp (disch := omega) only [w64] at h) <;> (try exact zx)) | (with_reducible intro hz; (try exact absurd hz (Nat.succ_ne_zero _)))))
  exact ⟨by
    rw [hw, hgl, show (((splL 10 t).length : Int) - 1).toNat = (splL 10 t).length - 1 by omega, show (splL 10 t).length + 0 - ((splL 10 t).length - 1) = 1 by omega]
    simp⟩
end Go.Proofs.YtamachahlhlhlaaDoor.Eng
set_option linter.unusedVariables false
set_option linter.unusedSimpArgs false
namespace Go.Proofs.YtamachahlhlhlaaDoor.Eng
open Go Go.RowKit
set_option maxRecDepth 100000
theorem allO_at {α β : Type} {f : α → Option β} : ∀ {l : List α} {r : List β} {i : Nat} {x : α}, allO f l = some r → l[i]? = some x → ∃ y, r[i]? = some y ∧ f x = some y
  | [], _, _, _, _, h => by simp at h
  | a :: l, r, i, x, h, hx => by
    simp only [allO] at h
    split at h
    · cases h
    · rename_i b hb
      split at h
      · cases h
      · rename_i s hs
        simp only [Option.some.injEq] at h
        subst h
        cases i with
        | zero => simp at hx; subst hx; exact ⟨b, rfl, hb⟩
        | succ i => simpa using allO_at hs (by simpa using hx)
theorem rlP_inv {W : List (List UInt8)} {a : RdT} (h : rlP W = some a) : ∃ w0 w1 w2 w3, W = [w0, w1, w2, w3] ∧ (-50 ≤ nmb w1 ∧ nmb w1 ≤ 50) ∧ (1 ≤ nmb w2 ∧ nmb w2 ≤ 20) ∧ a = (w0, nmb w1, nmb w2, decide (w3 = wayT true)) := by
  unfold rlP at h
  split at h
  · split at h
    · rename_i h1
      injection h with h
      exact ⟨_, _, _, _, rfl, h1.1, h1.2, h.symm⟩
    · cases h
  · cases h
theorem splL_sub (c : UInt8) : ∀ (s x : List UInt8), x ∈ splL c s → x.length ≤ s.length
  | [], x, h => by simp [splL] at h; subst h; simp
  | y :: r, x, h => by
    simp only [splL] at h
    split at h
    · rcases List.mem_cons.1 h with rfl | h
      · simp
      · have := splL_sub c r x h; simp; omega
    · split at h
      · rename_i a t e
        rcases List.mem_cons.1 h with rfl | h
        · have := splL_sub c r a (by rw [e]; exact List.mem_cons_self); simp; omega
        · have := splL_sub c r x (by rw [e]; exact List.mem_cons_of_mem _ h); simp; omega
      · simp at h; subst h; simp
theorem atL_w {α : Type} {l : List α} {i j : Nat} {a : α} {K : α → Prop} (h : l[i]? = some a) (e : j = i) (hk : K a) : atL l j K := by subst e; exact atL_iff.2 ⟨a, h, hk⟩
def s_rrI1 (R : List RdT) : Spec := fun args S => match args, S with
  | [.str t], [] => ⟨(t.length ≤ 1048576 ∧ t ≠ []) ∧ rrP t = some R, .tup [.sl 0 0 R.length 0, .int .i64 0], [.arr (.prod .str (.prod (.int .i16) (.prod (.int .i16) .bool))) R 4 true]⟩
  | _, _ => noSpec
set_option maxHeartbeats 1600000 in
theorem ok_ReadReadersI1 (R : List RdT) : SpecOk Tryd.prog 6 (s_rrI1 R) := by
  intro args S h; unfold s_rrI1 at h ⊢; (split at h <;> first | exact False.elim h | skip)
  dsimp only at h ⊢
  rename_i t
  obtain ⟨⟨h1, h2⟩, hR⟩ := h
  obtain ⟨hA, hn, hT⟩ := rrP_to hR
  unfold rrP at hR
  by_cases hc : (splL 10 t).getLast? = some [] ∧ (splL 10 t).length ≤ 13
  rotate_left 1
  · rw [if_neg hc] at hR; cases hR
  rw [if_pos hc] at hR
  have hO : allO (fun l => rlP (splL 32 l)) (splL 10 t).dropLast = some R := by
    cases e : allO (fun l => rlP (splL 32 l)) (splL 10 t).dropLast with
    | none => rw [e] at hR; cases hR
    | some R' =>
      rw [e] at hR
      simp only at hR
      by_cases h9 : (if (allR R' && decide (R'.length ≤ 12)) = true then rdsT R' else []) = t
      · rw [if_pos h9] at hR; exact hR
      · rw [if_neg h9] at hR; cases hR
  have hm := allO_len hO
  rw [List.length_dropLast] at hm
  have hK : decide ((splL 10 t).getLast? = some []) = true := decide_eq_true hc.1
  have hsR : seg R 0 R.length = R := seg_full rfl
  refine funW tabOk (E := [(19, s_lines), (20, s_spl), (22, s_nmb), (21, s_within), (23, s_rtx)]) ⟨ok_lines, ok_Split, ok_number, ok_within, ok_ReadersTextI, trivial⟩ [(11, [(3, 1), (3, 2), (11, 0), (16, 0), (16, 1)])] (k := 0) (fn := Tryd.f6) rfl rfl rfl rfl rfl rfl ?_
  (repeat' ((try (conv => whnf)); first | (with_reducible first | refine And.intro ?_ ?_ | refine WX.of ?_) | exact zc | ((with_reducible refine VC.mk ?_); exact zw) | ((with_reducible refine VC.mk ?_); exact ⟨h1, h2⟩) | ((with_reducible refine splitT_of ?_ ?_); (focus (simp only [hK, Bool.not_true, Bool.not_true, Bool.not_false, decide_true, decide_false]; done))) | ((with_reducible refine splitF_of ?_ ?_); (focus (simp only [hK, Bool.not_true, Bool.not_true, Bool.not_false, decide_true, decide_false]; done))) | (with_reducible first | refine splitT ?_ | refine splitF ?_) | ((with_reducible refine splitM.mk (fun hsm => ?_) (fun hsm => ?_)) <;> (try exact zx)) | ((with_reducible refine splitB.mk (fun h => ?_) (fun h => ?_)) <;> (try simp only [zs, ne_eq] at h) <;> (try simp (disch := omega) only [w64] at h) <;> (try exact zx)) | (with_reducible intro hz; (try exact absurd hz (Nat.succ_ne_zero _)))))
  refine loopW tabOk (E := [(19, s_lines), (20, s_spl), (22, s_nmb), (21, s_within), (23, s_rtx)]) ⟨ok_lines, ok_Split, ok_number, ok_within, ok_ReadersTextI, trivial⟩ [(11, [(3, 1), (3, 2), (11, 0), (16, 0), (16, 1)])] (σ := Nat) (fun i => [(0, .str t), (6, .sl 1 0 i 0), (23, .sl 0 0 ((splL 10 t).length - 1) 1), (24, .int .i64 ((splL 10 t).length - 1 : Nat)), (25, .int .i64 i)]) (fun i => [.arr .str (splL 10 t) 1 true, .arr (.prod .str (.prod (.int .i16) (.prod (.int .i16) .bool))) (R.take i) 4 true]) (fun i => (splL 10 t).length - 1 - i) (fun i => i ≤ (splL 10 t).length - 1) 0 (Nat.zero_le _) ?_ ?_
  · (repeat' ((try (conv => whnf)); first | (with_reducible first | refine And.intro ?_ ?_ | refine WX.of ?_) | exact zc | ((with_reducible refine VC.mk ?_); exact zw) | (with_reducible first | refine splitT ?_ | refine splitF ?_) | ((with_reducible refine splitM.mk (fun hsm => ?_) (fun hsm => ?_)) <;> (try exact zx)) | ((with_reducible refine splitB.mk (fun h => ?_) (fun h => ?_)) <;> (try simp only [zs, ne_eq] at h) <;> (try simp (disch := omega) only [w64] at h) <;> (try exact zx)) | (with_reducible intro hz; (try exact absurd hz (Nat.succ_ne_zero _)))))
  · intro i hi
    by_cases hlt : i < (splL 10 t).length - 1
    · obtain ⟨ln, hln⟩ := get_some (l := splL 10 t) (i := i) (by omega)
      have hld : (splL 10 t).dropLast[i]? = some ln := by rw [List.getElem?_dropLast, if_pos hlt]; exact hln
      obtain ⟨a, ha, hf⟩ := allO_at hO hld
      obtain ⟨w0, w1, w2, w3, hW, hb, hu, rfl⟩ := rlP_inv hf
      have hl1 := splL_sub 10 t ln (List.mem_of_getElem? hln)
      have hs := fun x hx => splL_sub 32 ln x hx
      rw [hW] at hs
      have hs1 := hs w1 (by simp)
      have hs2 := hs w2 (by simp)
      have hW0 : (splL 32 ln)[0]? = some w0 := by rw [hW]; rfl
      have hW1 : (splL 32 ln)[1]? = some w1 := by rw [hW]; rfl
      have hW2 : (splL 32 ln)[2]? = some w2 := by rw [hW]; rfl
      have hW3 : (splL 32 ln)[3]? = some w3 := by rw [hW]; rfl
      have hWn : (splL 32 ln).length = 4 := by rw [hW]; rfl
      have hWl : decide (((splL 32 ln).length : Int) ≠ 4) = false := by rw [hWn]; rfl
      have hlen : (R.take i).length = i := by rw [List.length_take]; omega
      (repeat' ((try (conv => whnf)); first | (with_reducible first | refine And.intro ?_ ?_ | refine WX.of ?_) | exact zc | ((with_reducible refine VC.mk ?_); exact zw) | with_reducible refine atL_0 hln ?_ | refine atL_w hW0 (by decide) ?_ | refine atL_w hW1 (by decide) ?_ | refine atL_w hW2 (by decide) ?_ | refine atL_w hW3 (by decide) ?_ | ((with_reducible refine splitT_of ?_ ?_); (focus (simp only [hWl, Bool.not_true, Bool.not_false, decide_true, decide_false]; done))) | ((with_reducible refine splitF_of ?_ ?_); (focus (simp only [hWl, Bool.not_true, Bool.not_false, decide_true, decide_false]; done))) | (with_reducible first | refine splitT ?_ | refine splitF ?_) | ((with_reducible refine splitM.mk (fun hsm => ?_) (fun hsm => ?_)) <;> (try exact zx)) | ((with_reducible refine splitB.mk (fun h => ?_) (fun h => ?_)) <;> (try simp only [zs, ne_eq] at h) <;> (try simp (disch := omega) only [w64] at h) <;> (try exact zx)) | (with_reducible intro hz; (try exact absurd hz (Nat.succ_ne_zero _)))))
      have hwb : IntKind.i16.wrap (nmb w1) = nmb w1 := by
        simp [IntKind.wrap, IntKind.bits, IntKind.signed]; omega
      have hwu : IntKind.i16.wrap (nmb w2) = nmb w2 := by
        simp [IntKind.wrap, IntKind.bits, IntKind.signed]; omega
      refine ⟨i + 1, by omega, by omega, ?_⟩
      (repeat' ((try (conv => whnf)); first | (with_reducible first | refine And.intro ?_ ?_ | refine WX.of ?_) | exact zc | ((with_reducible refine VC.mk ?_); exact zw) | (with_reducible first | refine splitT ?_ | refine splitF ?_) | ((with_reducible refine splitM.mk (fun hsm => ?_) (fun hsm => ?_)) <;> (try exact zx)) | ((with_reducible refine splitB.mk (fun h => ?_) (fun h => ?_)) <;> (try simp only [zs, ne_eq] at h) <;> (try simp (disch := omega) only [w64] at h) <;> (try exact zx)) | (with_reducible intro hz; (try exact absurd hz (Nat.succ_ne_zero _)))))
      all_goals (refine ⟨?_⟩; rw [hwb, hwu]; exact app_take ha)
    · obtain rfl : i = (splL 10 t).length - 1 := by omega
      have htk : R.take ((splL 10 t).length - 1) = R := List.take_of_length_le (by omega)
      have hgd : ∀ (j : Nat) (a : RdT), R[j]? = some a → rdrGood a := fun j a ha => by
        have hr := List.all_eq_true.1 hA a (List.mem_of_getElem? ha)
        obtain ⟨g1, g2, g3⟩ := rdr_b hr
        have g4 : a.1.length ≤ 12 := by
          unfold wordB at g1
          simp only [Bool.and_eq_true, decide_eq_true_eq] at g1
          omega
        unfold rdrGood
        omega
      have hsg : seg R 0 ((splL 10 t).length - 1) = R := seg_full hm
      have hrt : (if (allR (seg R 0 ((splL 10 t).length - 1)) && decide ((splL 10 t).length - 1 ≤ 12)) = true then rdsT (seg R 0 ((splL 10 t).length - 1)) else []) = t := by
        rw [hsg, hA, decide_eq_true (by omega)]
        exact hT.symm
      rw [htk]
      (repeat' ((try (conv => whnf)); first | (with_reducible first | refine And.intro ?_ ?_ | refine WX.of ?_) | exact zc | ((with_reducible refine VC.mk ?_); exact zw) | ((with_reducible refine VC.mk ?_); exact ⟨⟨by omega, by omega⟩, hgd⟩) | ((with_reducible refine splitT_of ?_ ?_); (focus (simp only [hrt, ne_eq, eq_self, not_true_eq_false, decide_false, Bool.not_true, Bool.not_false, decide_true, decide_false]; done))) | ((with_reducible refine splitF_of ?_ ?_); (focus (simp only [hrt, ne_eq, eq_self, not_true_eq_false, decide_false, Bool.not_true, Bool.not_false, decide_true, decide_false]; done))) | (with_reducible first | refine splitT ?_ | refine splitF ?_) | ((with_reducible refine splitM.mk (fun hsm => ?_) (fun hsm => ?_)) <;> (try exact zx)) | ((with_reducible refine splitB.mk (fun h => ?_) (fun h => ?_)) <;> (try simp only [zs, ne_eq] at h) <;> (try simp (disch := omega) only [w64] at h) <;> (try exact zx)) | (with_reducible intro hz; (try exact absurd hz (Nat.succ_ne_zero _)))))
      exact ⟨by rw [hm]⟩
end Go.Proofs.YtamachahlhlhlaaDoor.Eng
set_option linter.unusedVariables false
set_option linter.unusedSimpArgs false
namespace Go.Proofs.YtamachahlhlhlaaDoor.Eng
open Go Go.RowKit
set_option maxRecDepth 100000
def s_linesE : Spec := fun args S => match args, S with
  | [.str t], [] => ⟨t = [], .tup [.nils, .bool true], []⟩
  | _, _ => noSpec
theorem ok_linesE : SpecOk Tryd.prog 19 s_linesE := by
  intro args S h; unfold s_linesE at h ⊢; (split at h <;> first | exact False.elim h | skip)
  dsimp only at h ⊢
  subst h
  refine funW tabOk (E := []) trivial [] (k := 0) (fn := Tryd.f19) rfl rfl rfl rfl rfl rfl ?_
  (repeat' ((try (conv => whnf)); first | (with_reducible first | refine And.intro ?_ ?_ | refine WX.of ?_) | exact zc | ((with_reducible refine VC.mk ?_); exact zw) | (with_reducible first | refine splitT ?_ | refine splitF ?_) | ((with_reducible refine splitM.mk (fun hsm => ?_) (fun hsm => ?_)) <;> (try exact zx)) | ((with_reducible refine splitB.mk (fun h => ?_) (fun h => ?_)) <;> (try simp only [zs, ne_eq] at h) <;> (try simp (disch := omega) only [w64] at h) <;> (try exact zx)) | (with_reducible intro hz; (try exact absurd hz (Nat.succ_ne_zero _)))))
def s_rrIE : Spec := fun args S => match args, S with
  | [.str t], [] => ⟨t = [], .tup [.sl 0 0 0 0, .int .i64 0], [.arr (.prod .str (.prod (.int .i16) (.prod (.int .i16) .bool))) [] 4 true]⟩
  | _, _ => noSpec
theorem ok_ReadReadersIE : SpecOk Tryd.prog 6 s_rrIE := by
  intro args S h; unfold s_rrIE at h ⊢; (split at h <;> first | exact False.elim h | skip)
  dsimp only at h ⊢
  subst h
  refine funW tabOk (E := [(19, s_linesE), (20, s_spl), (22, s_nmb), (21, s_within), (23, s_rtx)]) ⟨ok_linesE, ok_Split, ok_number, ok_within, ok_ReadersTextI, trivial⟩ [(11, [(3, 1), (3, 2), (11, 0), (16, 0), (16, 1)])] (k := 0) (fn := Tryd.f6) rfl rfl rfl rfl rfl rfl ?_
  (repeat' ((try (conv => whnf)); first | (with_reducible first | refine And.intro ?_ ?_ | refine WX.of ?_) | exact zc | ((with_reducible refine VC.mk ?_); exact zw) | (with_reducible first | refine splitT ?_ | refine splitF ?_) | ((with_reducible refine splitM.mk (fun hsm => ?_) (fun hsm => ?_)) <;> (try exact zx)) | ((with_reducible refine splitB.mk (fun h => ?_) (fun h => ?_)) <;> (try simp only [zs, ne_eq] at h) <;> (try simp (disch := omega) only [w64] at h) <;> (try exact zx)) | (with_reducible intro hz; (try exact absurd hz (Nat.succ_ne_zero _)))))
  have h0 : (0 + 0 ≤ ([] : List RdT).length ∧ 0 ≤ 1048576) ∧ ∀ (j : Nat) (a : RdT), ([] : List RdT)[j]? = some a → rdrGood a := ⟨⟨Nat.le_refl 0, by decide⟩, fun j a ha => by simp at ha⟩
  have hrt : (if (allR (seg ([] : List RdT) 0 0) && decide (0 ≤ 12)) = true then rdsT (seg ([] : List RdT) 0 0) else []) = [] := rfl
  refine loop1 tabOk (E := [(19, s_linesE), (20, s_spl), (22, s_nmb), (21, s_within), (23, s_rtx)]) ⟨ok_linesE, ok_Split, ok_number, ok_within, ok_ReadersTextI, trivial⟩ [(11, [(3, 1), (3, 2), (11, 0), (16, 0), (16, 1)])] ?_
  (repeat' ((try (conv => whnf)); first | (with_reducible first | refine And.intro ?_ ?_ | refine WX.of ?_) | exact zc | ((with_reducible refine VC.mk ?_); exact zw) | ((with_reducible refine VC.mk ?_); exact h0) | ((with_reducible refine splitT_of ?_ ?_); (focus (simp only [hrt, ne_eq, eq_self, not_true_eq_false, decide_false, Bool.not_true, Bool.not_false, decide_true, decide_false]; done))) | ((with_reducible refine splitF_of ?_ ?_); (focus (simp only [hrt, ne_eq, eq_self, not_true_eq_false, decide_false, Bool.not_true, Bool.not_false, decide_true, decide_false]; done))) | (with_reducible first | refine splitT ?_ | refine splitF ?_) | ((with_reducible refine splitM.mk (fun hsm => ?_) (fun hsm => ?_)) <;> (try exact zx)) | ((with_reducible refine splitB.mk (fun h => ?_) (fun h => ?_)) <;> (try simp only [zs, ne_eq] at h) <;> (try simp (disch := omega) only [w64] at h) <;> (try exact zx)) | (with_reducible intro hz; (try exact absurd hz (Nat.succ_ne_zero _)))))
end Go.Proofs.YtamachahlhlhlaaDoor.Eng
set_option linter.unusedVariables false
set_option linter.unusedSimpArgs false
namespace Go.Proofs.YtamachahlhlhlaaDoor.Eng
open Go Go.RowKit
set_option maxRecDepth 100000
theorem allO_none {α β : Type} {f : α → Option β} : ∀ {l : List α}, allO f l = none → ∃ (k : Nat) (x : α) (pre : List β), l[k]? = some x ∧ f x = none ∧ allO f (l.take k) = some pre
  | [], h => by simp [allO] at h
  | a :: l, h => by
    simp only [allO] at h
    cases e : f a with
    | none => exact ⟨0, a, [], rfl, e, rfl⟩
    | some b =>
      rw [e] at h
      simp only at h
      have h2 : allO f l = none := by
        cases e2 : allO f l with
        | none => rfl
        | some s => rw [e2] at h; cases h
      obtain ⟨k, x, pre, h3, h4, h5⟩ := allO_none h2
      refine ⟨k + 1, x, b :: pre, by simpa using h3, h4, ?_⟩
      simp only [List.take_succ_cons, allO]
      rw [e, h5]
def s_rrI0 : Spec := fun args S => match args, S with
  | [.str t], [] => ⟨(t.length ≤ 1048576 ∧ t ≠ []) ∧ rrP t = none, .tup [.nils, .int .i64 5], []⟩
  | _, _ => noSpec
set_option maxHeartbeats 1600000 in
theorem ok_ReadReadersI0 : SpecOk Tryd.prog 6 s_rrI0 := by
  intro args S h; unfold s_rrI0 at h ⊢; (split at h <;> first | exact False.elim h | skip)
  dsimp only at h ⊢
  rename_i t
  obtain ⟨⟨h1, h2⟩, hR⟩ := h
  unfold rrP at hR
  by_cases hl : (splL 10 t).getLast? = some []
  rotate_left 1
  · have hK : decide ((splL 10 t).getLast? = some []) = false := decide_eq_false hl
    refine funW tabOk (E := [(19, s_lines), (20, s_spl), (22, s_nmb), (21, s_within), (23, s_rtx)]) ⟨ok_lines, ok_Split, ok_number, ok_within, ok_ReadersTextI, trivial⟩ [(11, [(3, 1), (3, 2), (11, 0), (16, 0), (16, 1)])] (k := 0) (fn := Tryd.f6) rfl rfl rfl rfl rfl rfl ?_
    (repeat' ((try (conv => whnf)); first | (with_reducible first | refine And.intro ?_ ?_ | refine WX.of ?_) | exact zc | ((with_reducible refine VC.mk ?_); exact zw) | ((with_reducible refine VC.mk ?_); exact ⟨h1, h2⟩) | ((with_reducible refine splitT_of ?_ ?_); (focus (simp only [hK, Bool.not_false, Bool.not_true, Bool.not_false, decide_true, decide_false]; done))) | ((with_reducible refine splitF_of ?_ ?_); (focus (simp only [hK, Bool.not_false, Bool.not_true, Bool.not_false, decide_true, decide_false]; done))) | (with_reducible first | refine splitT ?_ | refine splitF ?_) | ((with_reducible refine splitM.mk (fun hsm => ?_) (fun hsm => ?_)) <;> (try exact zx)) | ((with_reducible refine splitB.mk (fun h => ?_) (fun h => ?_)) <;> (try simp only [zs, ne_eq] at h) <;> (try simp (disch := omega) only [w64] at h) <;> (try exact zx)) | (with_reducible intro hz; (try exact absurd hz (Nat.succ_ne_zero _)))))
  have hK : decide ((splL 10 t).getLast? = some []) = true := decide_eq_true hl
  by_cases hn : (splL 10 t).length ≤ 13
  rotate_left 1
  · refine funW tabOk (E := [(19, s_lines), (20, s_spl), (22, s_nmb), (21, s_within), (23, s_rtx)]) ⟨ok_lines, ok_Split, ok_number, ok_within, ok_ReadersTextI, trivial⟩ [(11, [(3, 1), (3, 2), (11, 0), (16, 0), (16, 1)])] (k := 0) (fn := Tryd.f6) rfl rfl rfl rfl rfl rfl ?_
    (repeat' ((try (conv => whnf)); first | (with_reducible first | refine And.intro ?_ ?_ | refine WX.of ?_) | exact zc | ((with_reducible refine VC.mk ?_); exact zw) | ((with_reducible refine VC.mk ?_); exact ⟨h1, h2⟩) | ((with_reducible refine splitT_of ?_ ?_); (focus (simp only [hK, Bool.not_true, Bool.not_true, Bool.not_false, decide_true, decide_false]; done))) | ((with_reducible refine splitF_of ?_ ?_); (focus (simp only [hK, Bool.not_true, Bool.not_true, Bool.not_false, decide_true, decide_false]; done))) | (with_reducible first | refine splitT ?_ | refine splitF ?_) | ((with_reducible refine splitM.mk (fun hsm => ?_) (fun hsm => ?_)) <;> (try exact zx)) | ((with_reducible refine splitB.mk (fun h => ?_) (fun h => ?_)) <;> (try simp only [zs, ne_eq] at h) <;> (try simp (disch := omega) only [w64] at h) <;> (try exact zx)) | (with_reducible intro hz; (try exact absurd hz (Nat.succ_ne_zero _)))))
  rw [if_pos ⟨hl, hn⟩] at hR
  cases hO : allO (fun l => rlP (splL 32 l)) (splL 10 t).dropLast with
  | none =>
    obtain ⟨k, x, pre, hx, hf0, hO⟩ := allO_none hO
    have hk : k < (splL 10 t).length - 1 := by
      have := (List.getElem?_eq_some_iff.1 hx).1
      rwa [List.length_dropLast] at this
    have hm := allO_len hO
    rw [List.length_take, List.length_dropLast] at hm
    have hxl : (splL 10 t)[k]? = some x := by rw [List.getElem?_dropLast, if_pos hk] at hx; exact hx
    refine funW tabOk (E := [(19, s_lines), (20, s_spl), (22, s_nmb), (21, s_within), (23, s_rtx)]) ⟨ok_lines, ok_Split, ok_number, ok_within, ok_ReadersTextI, trivial⟩ [(11, [(3, 1), (3, 2), (11, 0), (16, 0), (16, 1)])] (k := 0) (fn := Tryd.f6) rfl rfl rfl rfl rfl rfl ?_
    (repeat' ((try (conv => whnf)); first | (with_reducible first | refine And.intro ?_ ?_ | refine WX.of ?_) | exact zc | ((with_reducible refine VC.mk ?_); exact zw) | ((with_reducible refine VC.mk ?_); exact ⟨h1, h2⟩) | ((with_reducible refine splitT_of ?_ ?_); (focus (simp only [hK, Bool.not_true, Bool.not_true, Bool.not_false, decide_true, decide_false]; done))) | ((with_reducible refine splitF_of ?_ ?_); (focus (simp only [hK, Bool.not_true, Bool.not_true, Bool.not_false, decide_true, decide_false]; done))) | (with_reducible first | refine splitT ?_ | refine splitF ?_) | ((with_reducible refine splitM.mk (fun hsm => ?_) (fun hsm => ?_)) <;> (try exact zx)) | ((with_reducible refine splitB.mk (fun h => ?_) (fun h => ?_)) <;> (try simp only [zs, ne_eq] at h) <;> (try simp (disch := omega) only [w64] at h) <;> (try exact zx)) | (with_reducible intro hz; (try exact absurd hz (Nat.succ_ne_zero _)))))
    refine loopW tabOk (E := [(19, s_lines), (20, s_spl), (22, s_nmb), (21, s_within), (23, s_rtx)]) ⟨ok_lines, ok_Split, ok_number, ok_within, ok_ReadersTextI, trivial⟩ [(11, [(3, 1), (3, 2), (11, 0), (16, 0), (16, 1)])] (σ := Nat) (fun i => [(0, .str t), (6, .sl 1 0 i 0), (23, .sl 0 0 ((splL 10 t).length - 1) 1), (24, .int .i64 ((splL 10 t).length - 1 : Nat)), (25, .int .i64 i)]) (fun i => [.arr .str (splL 10 t) 1 true, .arr (.prod .str (.prod (.int .i16) (.prod (.int .i16) .bool))) (pre.take i) 4 true]) (fun i => (splL 10 t).length - 1 - i) (fun i => i ≤ k) 0 (Nat.zero_le _) ?_ ?_
    · (repeat' ((try (conv => whnf)); first | (with_reducible first | refine And.intro ?_ ?_ | refine WX.of ?_) | exact zc | ((with_reducible refine VC.mk ?_); exact zw) | (with_reducible first | refine splitT ?_ | refine splitF ?_) | ((with_reducible refine splitM.mk (fun hsm => ?_) (fun hsm => ?_)) <;> (try exact zx)) | ((with_reducible refine splitB.mk (fun h => ?_) (fun h => ?_)) <;> (try simp only [zs, ne_eq] at h) <;> (try simp (disch := omega) only [w64] at h) <;> (try exact zx)) | (with_reducible intro hz; (try exact absurd hz (Nat.succ_ne_zero _)))))
    · intro i hi
      have hlen : (pre.take i).length = i := by rw [List.length_take]; omega
      by_cases hlt : i < k
      · obtain ⟨ln, hln⟩ := get_some (l := splL 10 t) (i := i) (by omega)
        have hld : ((splL 10 t).dropLast.take k)[i]? = some ln := by rw [List.getElem?_take, if_pos hlt, List.getElem?_dropLast, if_pos (by omega)]; exact hln
        obtain ⟨a, ha, hf⟩ := allO_at hO hld
        obtain ⟨w0, w1, w2, w3, hW, hb, hu, rfl⟩ := rlP_inv hf
        have hl1 := splL_sub 10 t ln (List.mem_of_getElem? hln)
        have hs := fun x hx => splL_sub 32 ln x hx
        rw [hW] at hs
        have hs1 := hs w1 (by simp)
        have hs2 := hs w2 (by simp)
        have hW0 : (splL 32 ln)[0]? = some w0 := by rw [hW]; rfl
        have hW1 : (splL 32 ln)[1]? = some w1 := by rw [hW]; rfl
        have hW2 : (splL 32 ln)[2]? = some w2 := by rw [hW]; rfl
        have hW3 : (splL 32 ln)[3]? = some w3 := by rw [hW]; rfl
        have hWn : (splL 32 ln).length = 4 := by rw [hW]; rfl
        have hWl : decide (((splL 32 ln).length : Int) ≠ 4) = false := by rw [hWn]; rfl
        (repeat' ((try (conv => whnf)); first | (with_reducible first | refine And.intro ?_ ?_ | refine WX.of ?_) | exact zc | ((with_reducible refine VC.mk ?_); exact zw) | with_reducible refine atL_0 hln ?_ | refine atL_w hW0 (by decide) ?_ | refine atL_w hW1 (by decide) ?_ | refine atL_w hW2 (by decide) ?_ | refine atL_w hW3 (by decide) ?_ | ((with_reducible refine splitT_of ?_ ?_); (focus (simp only [hWl, Bool.not_true, Bool.not_false, decide_true, decide_false]; done))) | ((with_reducible refine splitF_of ?_ ?_); (focus (simp only [hWl, Bool.not_true, Bool.not_false, decide_true, decide_false]; done))) | (with_reducible first | refine splitT ?_ | refine splitF ?_) | ((with_reducible refine splitM.mk (fun hsm => ?_) (fun hsm => ?_)) <;> (try exact zx)) | ((with_reducible refine splitB.mk (fun h => ?_) (fun h => ?_)) <;> (try simp only [zs, ne_eq] at h) <;> (try simp (disch := omega) only [w64] at h) <;> (try exact zx)) | (with_reducible intro hz; (try exact absurd hz (Nat.succ_ne_zero _)))))
        have hwb : IntKind.i16.wrap (nmb w1) = nmb w1 := by
          simp [IntKind.wrap, IntKind.bits, IntKind.signed]; omega
        have hwu : IntKind.i16.wrap (nmb w2) = nmb w2 := by
          simp [IntKind.wrap, IntKind.bits, IntKind.signed]; omega
        refine ⟨i + 1, by omega, by omega, ?_⟩
        (repeat' ((try (conv => whnf)); first | (with_reducible first | refine And.intro ?_ ?_ | refine WX.of ?_) | exact zc | ((with_reducible refine VC.mk ?_); exact zw) | (with_reducible first | refine splitT ?_ | refine splitF ?_) | ((with_reducible refine splitM.mk (fun hsm => ?_) (fun hsm => ?_)) <;> (try exact zx)) | ((with_reducible refine splitB.mk (fun h => ?_) (fun h => ?_)) <;> (try simp only [zs, ne_eq] at h) <;> (try simp (disch := omega) only [w64] at h) <;> (try exact zx)) | (with_reducible intro hz; (try exact absurd hz (Nat.succ_ne_zero _)))))
        all_goals (refine ⟨?_⟩; rw [hwb, hwu]; exact app_take ha)
      · obtain rfl : i = k := by omega
        have hl1 := splL_sub 10 t x (List.mem_of_getElem? hxl)
        by_cases hW : ∃ w0 w1 w2 w3, splL 32 x = [w0, w1, w2, w3]
        · obtain ⟨w0, w1, w2, w3, hW⟩ := hW
          have hs := fun y hy => splL_sub 32 x y hy
          rw [hW] at hs
          have hs1 := hs w1 (by simp)
          have hs2 := hs w2 (by simp)
          have hW0 : (splL 32 x)[0]? = some w0 := by rw [hW]; rfl
          have hW1 : (splL 32 x)[1]? = some w1 := by rw [hW]; rfl
          have hW2 : (splL 32 x)[2]? = some w2 := by rw [hW]; rfl
          have hW3 : (splL 32 x)[3]? = some w3 := by rw [hW]; rfl
          have hWn : (splL 32 x).length = 4 := by rw [hW]; rfl
          have hWl : decide (((splL 32 x).length : Int) ≠ 4) = false := by rw [hWn]; rfl
          have hbad : ¬ ((-50 ≤ nmb w1 ∧ nmb w1 ≤ 50) ∧ 1 ≤ nmb w2 ∧ nmb w2 ≤ 20) := fun hh => by
            simp only [rlP, hW] at hf0
            rw [if_pos hh] at hf0
            cases hf0
          (repeat' ((try (conv => whnf)); first | (with_reducible first | refine And.intro ?_ ?_ | refine WX.of ?_) | exact zc | ((with_reducible refine VC.mk ?_); exact zw) | with_reducible refine atL_0 hxl ?_ | refine atL_w hW0 (by decide) ?_ | refine atL_w hW1 (by decide) ?_ | refine atL_w hW2 (by decide) ?_ | refine atL_w hW3 (by decide) ?_ | ((with_reducible refine splitT_of ?_ ?_); (focus (simp only [hWl, Bool.not_true, Bool.not_false, decide_true, decide_false]; done))) | ((with_reducible refine splitF_of ?_ ?_); (focus (simp only [hWl, Bool.not_true, Bool.not_false, decide_true, decide_false]; done))) | (with_reducible first | refine splitT ?_ | refine splitF ?_) | ((with_reducible refine splitM.mk (fun hsm => ?_) (fun hsm => ?_)) <;> (try exact zx)) | ((with_reducible refine splitB.mk (fun h => ?_) (fun h => ?_)) <;> (try simp only [zs, ne_eq] at h) <;> (try simp (disch := omega) only [w64] at h) <;> (try exact zx)) | (with_reducible intro hz; (try exact absurd hz (Nat.succ_ne_zero _)))))
          all_goals exact absurd ⟨‹-50 ≤ nmb w1 ∧ nmb w1 ≤ 50›, ‹1 ≤ nmb w2 ∧ nmb w2 ≤ 20›⟩ hbad
        · have hWn : ¬ (splL 32 x).length = 4 := fun h4 => by
            match e : splL 32 x, h4 with
            | [w0, w1, w2, w3], _ => exact hW ⟨w0, w1, w2, w3, e⟩
          have hWl : decide (((splL 32 x).length : Int) ≠ 4) = true := decide_eq_true (by omega)
          (repeat' ((try (conv => whnf)); first | (with_reducible first | refine And.intro ?_ ?_ | refine WX.of ?_) | exact zc | ((with_reducible refine VC.mk ?_); exact zw) | with_reducible refine atL_0 hxl ?_ | ((with_reducible refine splitT_of ?_ ?_); (focus (simp only [hWl, Bool.not_true, Bool.not_false, decide_true, decide_false]; done))) | ((with_reducible refine splitF_of ?_ ?_); (focus (simp only [hWl, Bool.not_true, Bool.not_false, decide_true, decide_false]; done))) | (with_reducible first | refine splitT ?_ | refine splitF ?_) | ((with_reducible refine splitM.mk (fun hsm => ?_) (fun hsm => ?_)) <;> (try exact zx)) | ((with_reducible refine splitB.mk (fun h => ?_) (fun h => ?_)) <;> (try simp only [zs, ne_eq] at h) <;> (try simp (disch := omega) only [w64] at h) <;> (try exact zx)) | (with_reducible intro hz; (try exact absurd hz (Nat.succ_ne_zero _)))))
  | some R =>
    rw [hO] at hR
    simp only at hR
    have hm := allO_len hO
    rw [List.length_dropLast] at hm
    have hgd : ∀ (j : Nat) (a : RdT), R[j]? = some a → rdrGood a := fun j a ha => by
      have hj := (List.getElem?_eq_some_iff.1 ha).1
      obtain ⟨ln, hln⟩ := get_some (l := splL 10 t) (i := j) (by omega)
      have hld : (splL 10 t).dropLast[j]? = some ln := by rw [List.getElem?_dropLast, if_pos (by omega)]; exact hln
      obtain ⟨y, hy, hf⟩ := allO_at hO hld
      rw [ha] at hy
      injection hy with hy
      obtain ⟨w0, w1, w2, w3, hW, hb, hu, e⟩ := rlP_inv hf
      have hl1 := splL_sub 10 t ln (List.mem_of_getElem? hln)
      have hs0 := splL_sub 32 ln w0 (by rw [hW]; simp)
      rw [hy, e]
      unfold rdrGood
      simp only
      omega
    have hsg : seg R 0 ((splL 10 t).length - 1) = R := seg_full hm
    have hne : ¬ (if (allR (seg R 0 ((splL 10 t).length - 1)) && decide ((splL 10 t).length - 1 ≤ 12)) = true then rdsT (seg R 0 ((splL 10 t).length - 1)) else []) = t := fun h9 => by
      rw [hsg] at h9
      rw [show decide (R.length ≤ 12) = decide ((splL 10 t).length - 1 ≤ 12) from by rw [hm], if_pos h9] at hR
      cases hR
    have hnd := decide_eq_true hne
    refine funW tabOk (E := [(19, s_lines), (20, s_spl), (22, s_nmb), (21, s_within), (23, s_rtx)]) ⟨ok_lines, ok_Split, ok_number, ok_within, ok_ReadersTextI, trivial⟩ [(11, [(3, 1), (3, 2), (11, 0), (16, 0), (16, 1)])] (k := 0) (fn := Tryd.f6) rfl rfl rfl rfl rfl rfl ?_
    (repeat' ((try (conv => whnf)); first | (with_reducible first | refine And.intro ?_ ?_ | refine WX.of ?_) | exact zc | ((with_reducible refine VC.mk ?_); exact zw) | ((with_reducible refine VC.mk ?_); exact ⟨h1, h2⟩) | ((with_reducible refine splitT_of ?_ ?_); (focus (simp only [hK, Bool.not_true, Bool.not_true, Bool.not_false, decide_true, decide_false]; done))) | ((with_reducible refine splitF_of ?_ ?_); (focus (simp only [hK, Bool.not_true, Bool.not_true, Bool.not_false, decide_true, decide_false]; done))) | (with_reducible first | refine splitT ?_ | refine splitF ?_) | ((with_reducible refine splitM.mk (fun hsm => ?_) (fun hsm => ?_)) <;> (try exact zx)) | ((with_reducible refine splitB.mk (fun h => ?_) (fun h => ?_)) <;> (try simp only [zs, ne_eq] at h) <;> (try simp (disch := omega) only [w64] at h) <;> (try exact zx)) | (with_reducible intro hz; (try exact absurd hz (Nat.succ_ne_zero _)))))
    refine loopW tabOk (E := [(19, s_lines), (20, s_spl), (22, s_nmb), (21, s_within), (23, s_rtx)]) ⟨ok_lines, ok_Split, ok_number, ok_within, ok_ReadersTextI, trivial⟩ [(11, [(3, 1), (3, 2), (11, 0), (16, 0), (16, 1)])] (σ := Nat) (fun i => [(0, .str t), (6, .sl 1 0 i 0), (23, .sl 0 0 ((splL 10 t).length - 1) 1), (24, .int .i64 ((splL 10 t).length - 1 : Nat)), (25, .int .i64 i)]) (fun i => [.arr .str (splL 10 t) 1 true, .arr (.prod .str (.prod (.int .i16) (.prod (.int .i16) .bool))) (R.take i) 4 true]) (fun i => (splL 10 t).length - 1 - i) (fun i => i ≤ (splL 10 t).length - 1) 0 (Nat.zero_le _) ?_ ?_
    · (repeat' ((try (conv => whnf)); first | (with_reducible first | refine And.intro ?_ ?_ | refine WX.of ?_) | exact zc | ((with_reducible refine VC.mk ?_); exact zw) | (with_reducible first | refine splitT ?_ | refine splitF ?_) | ((with_reducible refine splitM.mk (fun hsm => ?_) (fun hsm => ?_)) <;> (try exact zx)) | ((with_reducible refine splitB.mk (fun h => ?_) (fun h => ?_)) <;> (try simp only [zs, ne_eq] at h) <;> (try simp (disch := omega) only [w64] at h) <;> (try exact zx)) | (with_reducible intro hz; (try exact absurd hz (Nat.succ_ne_zero _)))))
    · intro i hi
      have hlen : (R.take i).length = i := by rw [List.length_take]; omega
      by_cases hlt : i < (splL 10 t).length - 1
      · obtain ⟨ln, hln⟩ := get_some (l := splL 10 t) (i := i) (by omega)
        have hld : (splL 10 t).dropLast[i]? = some ln := by rw [List.getElem?_dropLast, if_pos hlt]; exact hln
        obtain ⟨a, ha, hf⟩ := allO_at hO hld
        obtain ⟨w0, w1, w2, w3, hW, hb, hu, rfl⟩ := rlP_inv hf
        have hl1 := splL_sub 10 t ln (List.mem_of_getElem? hln)
        have hs := fun x hx => splL_sub 32 ln x hx
        rw [hW] at hs
        have hs1 := hs w1 (by simp)
        have hs2 := hs w2 (by simp)
        have hW0 : (splL 32 ln)[0]? = some w0 := by rw [hW]; rfl
        have hW1 : (splL 32 ln)[1]? = some w1 := by rw [hW]; rfl
        have hW2 : (splL 32 ln)[2]? = some w2 := by rw [hW]; rfl
        have hW3 : (splL 32 ln)[3]? = some w3 := by rw [hW]; rfl
        have hWn : (splL 32 ln).length = 4 := by rw [hW]; rfl
        have hWl : decide (((splL 32 ln).length : Int) ≠ 4) = false := by rw [hWn]; rfl
        (repeat' ((try (conv => whnf)); first | (with_reducible first | refine And.intro ?_ ?_ | refine WX.of ?_) | exact zc | ((with_reducible refine VC.mk ?_); exact zw) | with_reducible refine atL_0 hln ?_ | refine atL_w hW0 (by decide) ?_ | refine atL_w hW1 (by decide) ?_ | refine atL_w hW2 (by decide) ?_ | refine atL_w hW3 (by decide) ?_ | ((with_reducible refine splitT_of ?_ ?_); (focus (simp only [hWl, Bool.not_true, Bool.not_false, decide_true, decide_false]; done))) | ((with_reducible refine splitF_of ?_ ?_); (focus (simp only [hWl, Bool.not_true, Bool.not_false, decide_true, decide_false]; done))) | (with_reducible first | refine splitT ?_ | refine splitF ?_) | ((with_reducible refine splitM.mk (fun hsm => ?_) (fun hsm => ?_)) <;> (try exact zx)) | ((with_reducible refine splitB.mk (fun h => ?_) (fun h => ?_)) <;> (try simp only [zs, ne_eq] at h) <;> (try simp (disch := omega) only [w64] at h) <;> (try exact zx)) | (with_reducible intro hz; (try exact absurd hz (Nat.succ_ne_zero _)))))
        have hwb : IntKind.i16.wrap (nmb w1) = nmb w1 := by
          simp [IntKind.wrap, IntKind.bits, IntKind.signed]; omega
        have hwu : IntKind.i16.wrap (nmb w2) = nmb w2 := by
          simp [IntKind.wrap, IntKind.bits, IntKind.signed]; omega
        refine ⟨i + 1, by omega, by omega, ?_⟩
        (repeat' ((try (conv => whnf)); first | (with_reducible first | refine And.intro ?_ ?_ | refine WX.of ?_) | exact zc | ((with_reducible refine VC.mk ?_); exact zw) | (with_reducible first | refine splitT ?_ | refine splitF ?_) | ((with_reducible refine splitM.mk (fun hsm => ?_) (fun hsm => ?_)) <;> (try exact zx)) | ((with_reducible refine splitB.mk (fun h => ?_) (fun h => ?_)) <;> (try simp only [zs, ne_eq] at h) <;> (try simp (disch := omega) only [w64] at h) <;> (try exact zx)) | (with_reducible intro hz; (try exact absurd hz (Nat.succ_ne_zero _)))))
        all_goals (refine ⟨?_⟩; rw [hwb, hwu]; exact app_take ha)
      · obtain rfl : i = (splL 10 t).length - 1 := by omega
        have htk : R.take ((splL 10 t).length - 1) = R := List.take_of_length_le (by omega)
        rw [htk]
        (repeat' ((try (conv => whnf)); first | (with_reducible first | refine And.intro ?_ ?_ | refine WX.of ?_) | exact zc | ((with_reducible refine VC.mk ?_); exact zw) | ((with_reducible refine VC.mk ?_); exact ⟨⟨by omega, by omega⟩, hgd⟩) | ((with_reducible refine splitT_of ?_ ?_); (focus (simp only [hne, ne_eq, not_false_eq_true, decide_true, Bool.not_true, Bool.not_false, decide_true, decide_false]; done))) | ((with_reducible refine splitF_of ?_ ?_); (focus (simp only [hne, ne_eq, not_false_eq_true, decide_true, Bool.not_true, Bool.not_false, decide_true, decide_false]; done))) | (with_reducible first | refine splitT ?_ | refine splitF ?_) | ((with_reducible refine splitM.mk (fun hsm => ?_) (fun hsm => ?_)) <;> (try exact zx)) | ((with_reducible refine splitB.mk (fun h => ?_) (fun h => ?_)) <;> (try simp only [zs, ne_eq] at h) <;> (try simp (disch := omega) only [w64] at h) <;> (try exact zx)) | (with_reducible intro hz; (try exact absurd hz (Nat.succ_ne_zero _)))))
end Go.Proofs.YtamachahlhlhlaaDoor.Eng
set_option linter.unusedVariables false
set_option linter.unusedSimpArgs false
namespace Go.Proofs.YtamachahlhlhlaaDoor.Eng
open Go Go.RowKit
set_option maxRecDepth 100000
def s_splS (c : UInt8) : Spec := fun args S => match args, S with
  | [.str s, .int .u8 k], [] => ⟨s.length ≤ 1048576 ∧ k = (c.toNat : Int), .sl 0 0 (splL c s).length 0, [.arr .str (splL c s) 1 true]⟩
  | _, _ => noSpec
theorem ok_l01Split (c : UInt8) : SpecOk Tryd.prog 13 (s_splS c) := by
  intro args S h; unfold s_splS at h ⊢; (split at h <;> first | exact False.elim h | skip)
  dsimp only at h ⊢
  rename_i s k
  obtain ⟨h1, rfl⟩ := h
  refine funW tabOk (E := []) trivial [] (k := 0) (fn := Tryd.f13) rfl rfl rfl rfl rfl rfl ?_
  (repeat' ((try (conv => whnf)); first | (with_reducible first | refine And.intro ?_ ?_ | refine WX.of ?_) | exact zc | ((with_reducible refine VC.mk ?_); exact zw) | (with_reducible first | refine splitT ?_ | refine splitF ?_) | ((with_reducible refine splitM.mk (fun hsm => ?_) (fun hsm => ?_)) <;> (try exact zx)) | ((with_reducible refine splitB.mk (fun h => ?_) (fun h => ?_)) <;> (try simp only [zs, ne_eq] at h) <;> (try simp (disch := omega) only [w64] at h) <;> (try exact zx)) | (with_reducible intro hz; (try exact absurd hz (Nat.succ_ne_zero _)))))
  refine loopW tabOk (E := []) trivial [] (σ := Nat) (fun i => [(0, .str s), (1, .int .u8 (c.toNat : Int)), (5, .sl 0 0 (spS c s i).1.length 0), (6, .int .i64 ((spS c s i).2 : Nat)), (7, .int .i64 i)]) (fun i => [.arr .str (spS c s i).1 1 true]) (fun i => s.length - i) (fun i => i ≤ s.length) 0 (Nat.zero_le _) ?_ ?_
  · (repeat' ((try (conv => whnf)); first | (with_reducible first | refine And.intro ?_ ?_ | refine WX.of ?_) | exact zc | ((with_reducible refine VC.mk ?_); exact zw) | (with_reducible first | refine splitT ?_ | refine splitF ?_) | ((with_reducible refine splitM.mk (fun hsm => ?_) (fun hsm => ?_)) <;> (try exact zx)) | ((with_reducible refine splitB.mk (fun h => ?_) (fun h => ?_)) <;> (try simp only [zs, ne_eq] at h) <;> (try simp (disch := omega) only [w64] at h) <;> (try exact zx)) | (with_reducible intro hz; (try exact absurd hz (Nat.succ_ne_zero _)))))
  · intro i hi
    obtain ⟨g1, g2, _, _⟩ := spS_inv c s i hi
    by_cases hlt : i < s.length
    · obtain ⟨a, ha⟩ := get_some (l := s) (i := i) hlt
      (repeat' ((try (conv => whnf)); first | (with_reducible first | refine And.intro ?_ ?_ | refine WX.of ?_) | exact zc | ((with_reducible refine VC.mk ?_); exact zw) | with_reducible refine atL_0 ha ?_ | with_reducible refine atL_n ha ?_ | (with_reducible first | refine splitT ?_ | refine splitF ?_) | ((with_reducible refine splitM.mk (fun hsm => ?_) (fun hsm => ?_)) <;> (try exact zx)) | ((with_reducible refine splitB.mk (fun h => ?_) (fun h => ?_)) <;> (try simp only [zs, ne_eq] at h) <;> (try simp (disch := omega) only [w64] at h) <;> (try exact zx)) | (with_reducible intro hz; (try exact absurd hz (Nat.succ_ne_zero _)))))
      · have hac : s[i]? = some c := by
          rw [ha]
          exact congrArg some (UInt8.toNat_inj.1 (Int.ofNat.inj h))
        have e : spS c s (i + 1) = ((spS c s i).1 ++ [(s.take i).drop (spS c s i).2], i + 1) := if_pos hac
        have hrows : seg (spS c s i).1 0 (spS c s i).1.length ++ seg [(s.take ((i : Nat) : Int).toNat).drop (((spS c s i).2 : Nat) : Int).toNat] 0 1 = (spS c s i).1 ++ [(s.take i).drop (spS c s i).2] := by
          rw [seg_all]; rfl
        refine ⟨i + 1, by omega, hlt, ?_⟩
        rw [e]
        (repeat' ((try (conv => whnf)); first | (with_reducible first | refine And.intro ?_ ?_ | refine WX.of ?_) | exact zc | ((with_reducible refine VC.mk ?_); exact zw) | (with_reducible first | refine splitT ?_ | refine splitF ?_) | ((with_reducible refine splitM.mk (fun hsm => ?_) (fun hsm => ?_)) <;> (try exact zx)) | ((with_reducible refine splitB.mk (fun h => ?_) (fun h => ?_)) <;> (try simp only [zs, ne_eq] at h) <;> (try simp (disch := omega) only [w64] at h) <;> (try exact zx)) | (with_reducible intro hz; (try exact absurd hz (Nat.succ_ne_zero _)))))
        all_goals first
          | exact ⟨by simp⟩
          | exact ⟨hrows⟩
      · have hac : ¬ s[i]? = some c := fun hh => by
          rw [ha] at hh
          injection hh with hh
          exact h (by rw [hh])
        have e : spS c s (i + 1) = spS c s i := if_neg hac
        refine ⟨i + 1, by omega, hlt, ?_⟩
        rw [e]
        (repeat' ((try (conv => whnf)); first | (with_reducible first | refine And.intro ?_ ?_ | refine WX.of ?_) | exact zc | ((with_reducible refine VC.mk ?_); exact zw) | (with_reducible first | refine splitT ?_ | refine splitF ?_) | ((with_reducible refine splitM.mk (fun hsm => ?_) (fun hsm => ?_)) <;> (try exact zx)) | ((with_reducible refine splitB.mk (fun h => ?_) (fun h => ?_)) <;> (try simp only [zs, ne_eq] at h) <;> (try simp (disch := omega) only [w64] at h) <;> (try exact zx)) | (with_reducible intro hz; (try exact absurd hz (Nat.succ_ne_zero _)))))
    · obtain rfl : i = s.length := by omega
      have he := spS_end c s
      have hle : (splL c s).length = (spS c s s.length).1.length + 1 := by rw [he]; simp
      have hrw : seg (spS c s s.length).1 0 (spS c s s.length).1.length ++ seg [s.drop (((spS c s s.length).2 : Nat) : Int).toNat] 0 1 = splL c s := by
        rw [seg_all, he]; rfl
      (repeat' ((try (conv => whnf)); first | (with_reducible first | refine And.intro ?_ ?_ | refine WX.of ?_) | exact zc | ((with_reducible refine VC.mk ?_); exact zw) | (with_reducible first | refine splitT ?_ | refine splitF ?_) | ((with_reducible refine splitM.mk (fun hsm => ?_) (fun hsm => ?_)) <;> (try exact zx)) | ((with_reducible refine splitB.mk (fun h => ?_) (fun h => ?_)) <;> (try simp only [zs, ne_eq] at h) <;> (try simp (disch := omega) only [w64] at h) <;> (try exact zx)) | (with_reducible intro hz; (try exact absurd hz (Nat.succ_ne_zero _)))))
      exact ⟨congrArg (fun z => [SB.arr .str z 1 true]) hrw⟩
def s_numS : Spec := fun args S => match args, S with
  | [.str s], [] => ⟨s.length ≤ 1048576, .tup [.int .i64 ((numR s).getD 0), .bool (numR s).isSome], []⟩
  | _, _ => noSpec
end Go.Proofs.YtamachahlhlhlaaDoor.Eng
set_option linter.unusedVariables false
set_option linter.unusedSimpArgs false
namespace Go.Proofs.YtamachahlhlhlaaDoor.Eng
open Go Go.RowKit
set_option maxRecDepth 100000
theorem digR_stop {s : List UInt8} {i : Nat} {n : Int} {x : UInt8} (h : digR 0 (s.take i) = some n) (hx : s[i]? = some x) (hb : x.toNat < 48 ∨ 57 < x.toNat) : digR 0 s = none := by
  obtain ⟨hi, rfl⟩ := List.getElem?_eq_some_iff.1 hx
  have e : s = s.take i ++ s.drop i := (List.take_append_drop i s).symm
  rw [e, digR_app, h, List.drop_eq_getElem_cons hi]
  simp only [Option.bind_some, digR]
  rw [if_pos hb]
theorem digR_go {s : List UInt8} {i : Nat} {n : Int} {x : UInt8} (h : digR 0 (s.take i) = some n) (hx : s[i]? = some x) (h1 : 48 ≤ x.toNat) (h2 : x.toNat ≤ 57) : digR 0 (s.take (i + 1)) = some (10 * n + ((x.toNat : Int) - 48)) := by
  obtain ⟨hi, rfl⟩ := List.getElem?_eq_some_iff.1 hx
  rw [List.take_succ_eq_append_getElem hi, digR_app, h]
  simp only [Option.bind_some, digR]
  rw [if_neg (by omega)]
theorem ten_le {i : Nat} (h : i ≤ 9) : (10 : Int) ^ i ≤ 1000000000 := by
  have : (10 : Nat) ^ i ≤ 10 ^ 9 := Nat.pow_le_pow_right (by decide) h
  have e : ((10 ^ i : Nat) : Int) = (10 : Int) ^ i := by simp
  rw [← e]; omega
theorem ok_l01Number : SpecOk Tryd.prog 15 s_numS := by
  intro args S h; unfold s_numS at h ⊢; (split at h <;> first | exact False.elim h | skip)
  dsimp only at h ⊢
  rename_i s
  refine funW tabOk (E := []) trivial [] (k := 0) (fn := Tryd.f15) rfl rfl rfl rfl rfl rfl ?_
  by_cases h0 : s = []
  · subst h0
    (repeat' ((try (conv => whnf)); first | (with_reducible first | refine And.intro ?_ ?_ | refine WX.of ?_) | exact zc | ((with_reducible refine VC.mk ?_); exact zw) | (with_reducible first | refine splitT ?_ | refine splitF ?_) | ((with_reducible refine splitM.mk (fun hsm => ?_) (fun hsm => ?_)) <;> (try exact zx)) | ((with_reducible refine splitB.mk (fun h => ?_) (fun h => ?_)) <;> (try simp only [zs, ne_eq] at h) <;> (try simp (disch := omega) only [w64] at h) <;> (try exact zx)) | (with_reducible intro hz; (try exact absurd hz (Nat.succ_ne_zero _)))))
  have hl : 1 ≤ s.length := by
    cases s with
    | nil => exact absurd rfl h0
    | cons => simp
  obtain ⟨x0, hx0⟩ := get_some (l := s) (i := 0) (by omega)
  have hd : decide (s = []) = false := decide_eq_false h0
  by_cases h10 : 10 < s.length
  · have e : numR s = none := if_pos (.inr (.inl h10))
    rw [e]
    (repeat' ((try (conv => whnf)); first | (with_reducible first | refine And.intro ?_ ?_ | refine WX.of ?_) | exact zc | ((with_reducible refine VC.mk ?_); exact zw) | with_reducible refine atL_0 hx0 ?_ | ((with_reducible refine splitT_of ?_ ?_); (focus (simp only [hd, Bool.not_true, Bool.not_false, decide_true, decide_false]; done))) | ((with_reducible refine splitF_of ?_ ?_); (focus (simp only [hd, Bool.not_true, Bool.not_false, decide_true, decide_false]; done))) | (with_reducible first | refine splitT ?_ | refine splitF ?_) | ((with_reducible refine splitM.mk (fun hsm => ?_) (fun hsm => ?_)) <;> (try exact zx)) | ((with_reducible refine splitB.mk (fun h => ?_) (fun h => ?_)) <;> (try simp only [zs, ne_eq] at h) <;> (try simp (disch := omega) only [w64] at h) <;> (try exact zx)) | (with_reducible intro hz; (try exact absurd hz (Nat.succ_ne_zero _)))))
  have hxz : s[0]? = some 48 ↔ (x0.toNat : Int) = 48 := by
    rw [hx0]
    constructor
    · intro h; injection h with h; rw [h]; rfl
    · intro h; rw [show x0 = 48 from UInt8.toNat_inj.1 (Int.ofNat.inj h)]
  by_cases hz : s[0]? = some 48 ∧ 1 < s.length
  · have e : numR s = none := if_pos (.inr (.inr hz))
    rw [e]
    have hz1 := hxz.1 hz.1
    (repeat' ((try (conv => whnf)); first | (with_reducible first | refine And.intro ?_ ?_ | refine WX.of ?_) | exact zc | ((with_reducible refine VC.mk ?_); exact zw) | refine atL_w hx0 (by decide) ?_ | ((with_reducible refine splitT_of ?_ ?_); (focus (simp only [hd, Bool.not_true, Bool.not_false, decide_true, decide_false]; done))) | ((with_reducible refine splitF_of ?_ ?_); (focus (simp only [hd, Bool.not_true, Bool.not_false, decide_true, decide_false]; done))) | (with_reducible first | refine splitT ?_ | refine splitF ?_) | ((with_reducible refine splitM.mk (fun hsm => ?_) (fun hsm => ?_)) <;> (try exact zx)) | ((with_reducible refine splitB.mk (fun h => ?_) (fun h => ?_)) <;> (try simp only [zs, ne_eq] at h) <;> (try simp (disch := omega) only [w64] at h) <;> (try exact zx)) | (with_reducible intro hz; (try exact absurd hz (Nat.succ_ne_zero _)))))
  · have e : numR s = digR 0 s := if_neg (by rintro (h | h | h) <;> contradiction)
    have hz1 : (x0.toNat : Int) = 48 → ¬ 1 < s.length := fun h1 h2 => hz ⟨hxz.2 h1, h2⟩
    rw [e]
    (repeat' ((try (conv => whnf)); first | (with_reducible first | refine And.intro ?_ ?_ | refine WX.of ?_) | exact zc | ((with_reducible refine VC.mk ?_); exact zw) | refine atL_w hx0 (by decide) ?_ | ((with_reducible refine splitT_of ?_ ?_); (focus (simp only [hd, Bool.not_true, Bool.not_false, decide_true, decide_false]; done))) | ((with_reducible refine splitF_of ?_ ?_); (focus (simp only [hd, Bool.not_true, Bool.not_false, decide_true, decide_false]; done))) | (with_reducible first | refine splitT ?_ | refine splitF ?_) | ((with_reducible refine splitM.mk (fun hsm => ?_) (fun hsm => ?_)) <;> (try exact zx)) | ((with_reducible refine splitB.mk (fun h => ?_) (fun h => ?_)) <;> (try simp only [zs, ne_eq] at h) <;> (try simp (disch := omega) only [w64] at h) <;> (try exact zx)) | (with_reducible intro hz; (try exact absurd hz (Nat.succ_ne_zero _)))))
    all_goals (try (exfalso; have := hz1 ‹_›; omega))
    all_goals
      refine loopW tabOk (E := []) trivial [] (σ := Nat × Int) (fun i => [(0, .str s), (4, .int .i64 i.2), (5, .int .i64 i.1)]) (fun _ => []) (fun i => s.length - i.1) (fun i => i.1 ≤ s.length ∧ digR 0 (s.take i.1) = some i.2 ∧ 0 ≤ i.2 ∧ i.2 < 10 ^ i.1) (0, 0) ⟨Nat.zero_le _, rfl, by decide, by decide⟩ ?_ ?_
      · (repeat' ((try (conv => whnf)); first | (with_reducible first | refine And.intro ?_ ?_ | refine WX.of ?_) | exact zc | ((with_reducible refine VC.mk ?_); exact zw) | (with_reducible first | refine splitT ?_ | refine splitF ?_) | ((with_reducible refine splitM.mk (fun hsm => ?_) (fun hsm => ?_)) <;> (try exact zx)) | ((with_reducible refine splitB.mk (fun h => ?_) (fun h => ?_)) <;> (try simp only [zs, ne_eq] at h) <;> (try simp (disch := omega) only [w64] at h) <;> (try exact zx)) | (with_reducible intro hz; (try exact absurd hz (Nat.succ_ne_zero _)))))
      · intro ⟨i, n⟩ ⟨hi, hg, hn0, hn1⟩
        dsimp only at hi hg hn0 hn1
        by_cases hlt : i < s.length
        · obtain ⟨x, hx⟩ := get_some (l := s) (i := i) hlt
          have ht := ten_le (i := i) (by omega)
          have hxb := x.toNat_lt
          by_cases hb : x.toNat < 48 ∨ 57 < x.toNat
          · rw [digR_stop hg hx hb]
            (repeat' ((try (conv => whnf)); first | (with_reducible first | refine And.intro ?_ ?_ | refine WX.of ?_) | exact zc | ((with_reducible refine VC.mk ?_); exact zw) | with_reducible refine atL_n hx ?_ | with_reducible refine atL_0 hx ?_ | (with_reducible first | refine splitT ?_ | refine splitF ?_) | ((with_reducible refine splitM.mk (fun hsm => ?_) (fun hsm => ?_)) <;> (try exact zx)) | ((with_reducible refine splitB.mk (fun h => ?_) (fun h => ?_)) <;> (try simp only [zs, ne_eq] at h) <;> (try simp (disch := omega) only [w64] at h) <;> (try exact zx)) | (with_reducible intro hz; (try exact absurd hz (Nat.succ_ne_zero _)))))
            all_goals (exfalso; omega)
          · have hgo := digR_go hg hx (by omega) (by omega)
            (repeat' ((try (conv => whnf)); first | (with_reducible first | refine And.intro ?_ ?_ | refine WX.of ?_) | exact zc | ((with_reducible refine VC.mk ?_); exact zw) | with_reducible refine atL_n hx ?_ | with_reducible refine atL_0 hx ?_ | (with_reducible first | refine splitT ?_ | refine splitF ?_) | ((with_reducible refine splitM.mk (fun hsm => ?_) (fun hsm => ?_)) <;> (try exact zx)) | ((with_reducible refine splitB.mk (fun h => ?_) (fun h => ?_)) <;> (try simp only [zs, ne_eq] at h) <;> (try simp (disch := omega) only [w64] at h) <;> (try exact zx)) | (with_reducible intro hz; (try exact absurd hz (Nat.succ_ne_zero _)))))
            all_goals first
              | (exfalso; omega)
              | skip
            refine ⟨(i + 1, 10 * n + ((x.toNat : Int) - 48)), by dsimp only; omega, ⟨by dsimp only; omega, hgo, by dsimp only; omega, ?_⟩, ?_⟩
            · dsimp only
              rw [Int.pow_succ]; omega
            · have hw : IntKind.i64.wrap (IntKind.i64.wrap (10 * n) + IntKind.i64.wrap (IntKind.u8.wrap ((x.toNat : Int) - 48))) = 10 * n + ((x.toNat : Int) - 48) := by
                have e8 : IntKind.u8.wrap ((x.toNat : Int) - 48) = (x.toNat : Int) - 48 := by simp [IntKind.wrap, IntKind.bits, IntKind.signed]; omega
                rw [e8, w64 (n := 10 * n) (by omega), w64 (n := (x.toNat : Int) - 48) (by omega), w64 (by omega)]
              (repeat' ((try (conv => whnf)); first | (with_reducible first | refine And.intro ?_ ?_ | refine WX.of ?_) | exact zc | ((with_reducible refine VC.mk ?_); exact zw) | ((with_reducible refine VC.mk ?_); dsimp only; (rw [hw]; done)) | (with_reducible first | refine splitT ?_ | refine splitF ?_) | ((with_reducible refine splitM.mk (fun hsm => ?_) (fun hsm => ?_)) <;> (try exact zx)) | ((with_reducible refine splitB.mk (fun h => ?_) (fun h => ?_)) <;> (try simp only [zs, ne_eq] at h) <;> (try simp (disch := omega) only [w64] at h) <;> (try exact zx)) | (with_reducible intro hz; (try exact absurd hz (Nat.succ_ne_zero _)))))
        · obtain rfl : i = s.length := by omega
          rw [List.take_length] at hg
          rw [hg]
          (repeat' ((try (conv => whnf)); first | (with_reducible first | refine And.intro ?_ ?_ | refine WX.of ?_) | exact zc | ((with_reducible refine VC.mk ?_); exact zw) | (with_reducible first | refine splitT ?_ | refine splitF ?_) | ((with_reducible refine splitM.mk (fun hsm => ?_) (fun hsm => ?_)) <;> (try exact zx)) | ((with_reducible refine splitB.mk (fun h => ?_) (fun h => ?_)) <;> (try simp only [zs, ne_eq] at h) <;> (try simp (disch := omega) only [w64] at h) <;> (try exact zx)) | (with_reducible intro hz; (try exact absurd hz (Nat.succ_ne_zero _)))))
end Go.Proofs.YtamachahlhlhlaaDoor.Eng
set_option linter.unusedVariables false
set_option linter.unusedSimpArgs false
namespace Go.Proofs.YtamachahlhlhlaaDoor.Eng
open Go Go.RowKit
set_option maxRecDepth 100000
end Go.Proofs.YtamachahlhlhlaaDoor.Eng
set_option linter.unusedVariables false
set_option linter.unusedSimpArgs false
namespace Go.Proofs.YtamachahlhlhlaaDoor.Eng
open Go Go.RowKit
set_option maxRecDepth 100000
theorem decT_num : ∀ (k : Nat) (s : List UInt8) (n : Int), s ≠ [] → s.length ≤ k + 1 → ¬ (s[0]? = some 48 ∧ 1 < s.length) → digR 0 s = some n → (0 ≤ n ∧ n < 10 ^ s.length) ∧ (s[0]? ≠ some 48 → 1 ≤ n) ∧ decT k n = s := by
  intro k
  induction k with
  | zero =>
    intro s n h0 hl hz hd
    match s, h0, hl with
    | [x], _, _ =>
      simp only [digR] at hd
      split at hd
      · cases hd
      · rename_i hx
        injection hd with hd
        subst hd
        refine ⟨⟨by omega, by simp; omega⟩, fun h => ?_, ?_⟩
        · have : x.toNat ≠ 48 := fun e => h (by simp; exact UInt8.toNat_inj.1 e)
          omega
        · simp only [decT]
          rw [show (48 + (10 * 0 + ((x.toNat : Int) - 48)) % 10).toNat = x.toNat by omega, UInt8.ofNat_toNat]
  | succ k ih =>
    intro s n h0 hl hz hd
    obtain ⟨a, x, rfl⟩ : ∃ a x, s = a ++ [x] := ⟨s.dropLast, s.getLast h0, (List.dropLast_concat_getLast h0).symm⟩
    rw [digR_app] at hd
    cases e : digR 0 a with
    | none => rw [e] at hd; cases hd
    | some m =>
      rw [e] at hd
      simp only [Option.bind_some, digR] at hd
      split at hd
      · cases hd
      · rename_i hx
        injection hd with hd
        subst hd
        by_cases ha : a = []
        · subst ha
          simp only [digR, Option.some.injEq] at e
          subst e
          refine ⟨⟨by omega, by simp; omega⟩, fun h => ?_, ?_⟩
          · have : x.toNat ≠ 48 := fun e => h (by simp; exact UInt8.toNat_inj.1 e)
            omega
          · simp only [decT]
            rw [if_pos (by omega), show (48 + (10 * 0 + ((x.toNat : Int) - 48)) % 10).toNat = x.toNat by omega, UInt8.ofNat_toNat]
            rfl
        · have hla : 1 ≤ a.length := by
            cases a with
            | nil => exact absurd rfl ha
            | cons => simp
          have h00 : (a ++ [x])[0]? = a[0]? := List.getElem?_append_left hla
          rw [h00] at hz ⊢
          have hz1 : a[0]? ≠ some 48 := fun h => hz ⟨h, by simp; omega⟩
          obtain ⟨⟨g1, g2⟩, g3, g4⟩ := ih a m ha (by simp at hl; omega) (fun h => hz1 h.1) e
          have g3 := g3 hz1
          refine ⟨⟨by omega, ?_⟩, fun _ => by omega, ?_⟩
          · rw [List.length_append, List.length_singleton, Int.pow_succ]
            omega
          · simp only [decT]
            rw [if_neg (by omega), show (10 * m + ((x.toNat : Int) - 48)) / 10 = m by omega, g4, show (48 + (10 * m + ((x.toNat : Int) - 48)) % 10).toNat = x.toNat by omega, UInt8.ofNat_toNat]
theorem numR_to {s : List UInt8} {n : Int} (h : numR s = some n) : dcl n = s ∧ 0 ≤ n ∧ n < 10000000000 := by
  unfold numR at h
  split at h
  · cases h
  · rename_i hc
    have h1 : s ≠ [] := fun e => hc (.inl e)
    have h2 : s.length ≤ 10 := by
      rcases Nat.lt_or_ge 10 s.length with h2 | h2
      · exact absurd (.inr (.inl h2)) hc
      · exact h2
    obtain ⟨⟨g1, g2⟩, _, g3⟩ := decT_num 18 s n h1 (by omega) (fun e => hc (.inr (.inr e))) h
    have : (10 : Nat) ^ s.length ≤ 10 ^ 10 := Nat.pow_le_pow_right (by decide) h2
    have e : ((10 ^ s.length : Nat) : Int) = (10 : Int) ^ s.length := by simp
    refine ⟨g3, g1, ?_⟩
    rw [← e] at g2
    omega
theorem numR_b (s : List UInt8) : 0 ≤ (numR s).getD 0 ∧ (numR s).getD 0 < 10000000000 := by
  cases e : numR s with
  | none => simp
  | some n => exact (numR_to e).2
end Go.Proofs.YtamachahlhlhlaaDoor.Eng
set_option linter.unusedVariables false
set_option linter.unusedSimpArgs false
namespace Go.Proofs.YtamachahlhlhlaaDoor.Eng
open Go Go.RowKit
set_option maxRecDepth 100000
end Go.Proofs.YtamachahlhlhlaaDoor.Eng
set_option linter.unusedVariables false
set_option linter.unusedSimpArgs false
namespace Go.Proofs.YtamachahlhlhlaaDoor.Eng
open Go Go.RowKit
set_option maxRecDepth 100000
end Go.Proofs.YtamachahlhlhlaaDoor.Eng
set_option linter.unusedVariables false
set_option linter.unusedSimpArgs false
namespace Go.Proofs.YtamachahlhlhlaaDoor.Eng
open Go Go.RowKit
set_option maxRecDepth 100000
end Go.Proofs.YtamachahlhlhlaaDoor.Eng
set_option linter.unusedVariables false
set_option linter.unusedSimpArgs false
namespace Go.Proofs.YtamachahlhlhlaaDoor.Eng
open Go Go.RowKit
set_option maxRecDepth 100000
end Go.Proofs.YtamachahlhlhlaaDoor.Eng
set_option linter.unusedVariables false
set_option linter.unusedSimpArgs false
namespace Go.Proofs.YtamachahlhlhlaaDoor.Eng
open Go Go.RowKit
set_option maxRecDepth 100000
/-- Fractions that may fail. -/
abbrev FrT : Type := Int × Int
end Go.Proofs.YtamachahlhlhlaaDoor.Eng
set_option linter.unusedVariables false
set_option linter.unusedSimpArgs false
namespace Go.Proofs.YtamachahlhlhlaaDoor.Eng
open Go Go.RowKit
set_option maxRecDepth 100000
end Go.Proofs.YtamachahlhlhlaaDoor.Eng
set_option linter.unusedVariables false
set_option linter.unusedSimpArgs false
namespace Go.Proofs.YtamachahlhlhlaaDoor.Eng
open Go Go.RowKit
set_option maxRecDepth 100000
/-- Two fractions that may fail. -/
def z2 (o : Option (FrT × FrT)) : FrT × FrT := o.getD ((0, 0), (0, 0))
end Go.Proofs.YtamachahlhlhlaaDoor.Eng
set_option linter.unusedVariables false
set_option linter.unusedSimpArgs false
namespace Go.Proofs.YtamachahlhlhlaaDoor.Eng
open Go Go.RowKit
set_option maxRecDepth 100000
end Go.Proofs.YtamachahlhlhlaaDoor.Eng
set_option linter.unusedVariables false
set_option linter.unusedSimpArgs false
namespace Go.Proofs.YtamachahlhlhlaaDoor.Eng
open Go Go.RowKit
set_option maxRecDepth 100000
end Go.Proofs.YtamachahlhlhlaaDoor.Eng
set_option linter.unusedVariables false
set_option linter.unusedSimpArgs false
namespace Go.Proofs.YtamachahlhlhlaaDoor.Eng
open Go Go.RowKit
set_option maxRecDepth 100000
end Go.Proofs.YtamachahlhlhlaaDoor.Eng
set_option linter.unusedVariables false
set_option linter.unusedSimpArgs false
namespace Go.Proofs.YtamachahlhlhlaaDoor.Eng
open Go Go.RowKit
set_option maxRecDepth 100000
end Go.Proofs.YtamachahlhlhlaaDoor.Eng
set_option linter.unusedVariables false
set_option linter.unusedSimpArgs false
namespace Go.Proofs.YtamachahlhlhlaaDoor.Eng
open Go Go.RowKit
set_option maxRecDepth 100000
end Go.Proofs.YtamachahlhlhlaaDoor.Eng
set_option linter.unusedVariables false
set_option linter.unusedSimpArgs false
namespace Go.Proofs.YtamachahlhlhlaaDoor.Eng
open Go Go.RowKit
set_option maxRecDepth 100000
end Go.Proofs.YtamachahlhlhlaaDoor.Eng
set_option linter.unusedVariables false
set_option linter.unusedSimpArgs false
namespace Go.Proofs.YtamachahlhlhlaaDoor.Eng
open Go Go.RowKit
set_option maxRecDepth 100000
end Go.Proofs.YtamachahlhlhlaaDoor.Eng
set_option linter.unusedVariables false
set_option linter.unusedSimpArgs false
namespace Go.Proofs.YtamachahlhlhlaaDoor.Eng
open Go Go.RowKit
set_option maxRecDepth 100000
end Go.Proofs.YtamachahlhlhlaaDoor.Eng
set_option linter.unusedVariables false
set_option linter.unusedSimpArgs false
namespace Go.Proofs.YtamachahlhlhlaaDoor.Eng
open Go Go.RowKit
set_option maxRecDepth 100000
end Go.Proofs.YtamachahlhlhlaaDoor.Eng
set_option linter.unusedVariables false
set_option linter.unusedSimpArgs false
namespace Go.Proofs.YtamachahlhlhlaaDoor.Eng
open Go Go.RowKit
set_option maxRecDepth 100000
def rpL (wp wq sp sq fp fq kp kq lp lq : Int) : List (Int × Int) := [(wp, wq), (sp, sq), (fp, fq), (kp, kq), (lp, lq)]
structure RpOk (i wp wq sp sq fp fq kp kq lp lq ap aq zp zq : Int) : Prop where
  i : 0 ≤ i ∧ i ≤ 9
  w : fOk wp wq = true
  s : fOk sp sq = true
  f : fOk fp fq = true
  k : fOk kp kq = true
  l : fOk lp lq = true
  o : spOk ap aq zp zq = true
  all : allF (rpL wp wq sp sq fp fq kp kq lp lq) = true
end Go.Proofs.YtamachahlhlhlaaDoor.Eng
set_option linter.unusedVariables false
set_option linter.unusedSimpArgs false
namespace Go.Proofs.YtamachahlhlhlaaDoor.Eng
open Go Go.RowKit
set_option maxRecDepth 100000
end Go.Proofs.YtamachahlhlhlaaDoor.Eng
set_option linter.unusedVariables false
set_option linter.unusedSimpArgs false
namespace Go.Proofs.YtamachahlhlhlaaDoor.Eng
open Go Go.RowKit
set_option maxRecDepth 100000
end Go.Proofs.YtamachahlhlhlaaDoor.Eng
set_option linter.unusedVariables false
set_option linter.unusedSimpArgs false
namespace Go.Proofs.YtamachahlhlhlaaDoor.Eng
open Go Go.RowKit
set_option maxRecDepth 100000
def s_sgnS : Spec := fun args S => match args, S with
  | [.str s], [] => ⟨s.length ≤ 1048576, .tup [.int .i64 ((sgnR s).getD 0), .bool (sgnR s).isSome], []⟩
  | _, _ => noSpec
theorem sgn_neg (r : List UInt8) : (sgnR (45 :: r)).getD 0 = -((numR r).getD 0) ∧ (sgnR (45 :: r)).isSome = ((numR r).isSome && decide (0 < (numR r).getD 0)) := by
  have hh : sgnR (45 :: r) = (numR r).bind fun n => if 0 < n then some (-n) else none := rfl
  rw [hh]
  cases e : numR r with
  | none => exact ⟨rfl, rfl⟩
  | some n =>
    have := (numR_to e).2.1
    simp only [Option.bind_some, Option.getD_some, Option.isSome_some, Bool.true_and]
    by_cases h : 0 < n
    · rw [if_pos h, decide_eq_true h]; exact ⟨rfl, rfl⟩
    · rw [if_neg h, decide_eq_false h]
      exact ⟨by simp; omega, rfl⟩
theorem ok_l01Signed : SpecOk Tryd.prog 14 s_sgnS := by
  intro args S h; unfold s_sgnS at h ⊢; (split at h <;> first | exact False.elim h | skip)
  dsimp only at h ⊢
  rename_i s
  match s, h with
  | [], h =>
    refine funW tabOk (E := [(15, s_numS)]) ⟨ok_l01Number, trivial⟩ [] (k := 0) (fn := Tryd.f14) rfl rfl rfl rfl rfl rfl ?_
    (repeat' ((try (conv => whnf)); first | (with_reducible first | refine And.intro ?_ ?_ | refine WX.of ?_) | exact zc | ((with_reducible refine VC.mk ?_); exact zw) | (with_reducible first | refine splitT ?_ | refine splitF ?_) | ((with_reducible refine splitM.mk (fun hsm => ?_) (fun hsm => ?_)) <;> (try exact zx)) | ((with_reducible refine splitB.mk (fun h => ?_) (fun h => ?_)) <;> (try simp only [zs, ne_eq] at h) <;> (try simp (disch := omega) only [w64] at h) <;> (try exact zx)) | (with_reducible intro hz; (try exact absurd hz (Nat.succ_ne_zero _)))))
  | x :: r, h =>
    have hx0 : (x :: r)[0]? = some x := rfl
    have hd : decide ((x :: r) = []) = false := decide_eq_false (by simp)
    have hd2 : decide ((x :: r) ≠ []) = true := decide_eq_true (by simp)
    have hb := numR_b r
    simp only [List.length_cons] at h
    by_cases hx : x = 45
    · subst hx
      obtain ⟨e1, e2⟩ := sgn_neg r
      rw [e1, e2]
      refine funW tabOk (E := [(15, s_numS)]) ⟨ok_l01Number, trivial⟩ [] (k := 0) (fn := Tryd.f14) rfl rfl rfl rfl rfl rfl ?_
      have hlen : (0 : Int) ≤ 1 ∧ (1 : Int) ≤ ((45 :: r).length : Int) := ⟨by decide, by rw [List.length_cons]; omega⟩
      have hle : (List.drop (Int.toNat 1) ((45 : UInt8) :: r)).length ≤ 1048576 := by show r.length ≤ 1048576; omega
      have hw : IntKind.i64.wrap (0 - (numR r).getD 0) = -(numR r).getD 0 := by rw [w64 (by omega)]; omega
      (repeat' ((try (conv => whnf)); first | (with_reducible first | refine And.intro ?_ ?_ | refine WX.of ?_) | exact zc | ((with_reducible refine VC.mk ?_); exact zw) | refine atL_w hx0 (by decide) ?_ | ((with_reducible refine splitT_of ?_ ?_); (focus (simp only [hd, hd2, Bool.not_true, Bool.not_false, decide_true, decide_false]; done))) | ((with_reducible refine splitF_of ?_ ?_); (focus (simp only [hd, hd2, Bool.not_true, Bool.not_false, decide_true, decide_false]; done))) | ((with_reducible refine VC.mk ?_); exact hlen) | ((with_reducible refine VC.mk ?_); exact hle) | (with_reducible first | refine splitT ?_ | refine splitF ?_) | ((with_reducible refine splitM.mk (fun hsm => ?_) (fun hsm => ?_)) <;> (try exact zx)) | ((with_reducible refine splitB.mk (fun h => ?_) (fun h => ?_)) <;> (try simp only [zs, ne_eq] at h) <;> (try simp (disch := omega) only [w64] at h) <;> (try exact zx)) | (with_reducible intro hz; (try exact absurd hz (Nat.succ_ne_zero _)))))
      all_goals first
        | exact absurd rfl ‹_›
        | (refine ⟨?_⟩
           show SV.tup [SV.int IntKind.i64 (IntKind.i64.wrap (0 - (numR r).getD 0)), SV.bool _] = _
           rw [hw]
           first
             | (rw [show (numR r).isSome = true from ‹_›]; rfl)
             | (rw [show (numR r).isSome = false from ‹_›]; rfl))
    · have e : sgnR (x :: r) = numR (x :: r) := by
        unfold sgnR
        split
        · rename_i h2; injection h2 with h2; exact absurd h2 hx
        · rfl
      rw [e]
      refine funW tabOk (E := [(15, s_numS)]) ⟨ok_l01Number, trivial⟩ [] (k := 0) (fn := Tryd.f14) rfl rfl rfl rfl rfl rfl ?_
      have hle : ((x :: r) : List UInt8).length ≤ 1048576 := by rw [List.length_cons]; exact h
      have hxn : ¬ (x.toNat : Int) = 45 := fun h9 => hx (UInt8.toNat_inj.1 (Int.ofNat.inj h9))
      (repeat' ((try (conv => whnf)); first | (with_reducible first | refine And.intro ?_ ?_ | refine WX.of ?_) | exact zc | ((with_reducible refine VC.mk ?_); exact zw) | refine atL_w hx0 (by decide) ?_ | ((with_reducible refine splitT_of ?_ ?_); (focus (simp only [hd, hd2, Bool.not_true, Bool.not_false, decide_true, decide_false]; done))) | ((with_reducible refine splitF_of ?_ ?_); (focus (simp only [hd, hd2, Bool.not_true, Bool.not_false, decide_true, decide_false]; done))) | ((with_reducible refine VC.mk ?_); exact hle) | (with_reducible first | refine splitT ?_ | refine splitF ?_) | ((with_reducible refine splitM.mk (fun hsm => ?_) (fun hsm => ?_)) <;> (try exact zx)) | ((with_reducible refine splitB.mk (fun h => ?_) (fun h => ?_)) <;> (try simp only [zs, ne_eq] at h) <;> (try simp (disch := omega) only [w64] at h) <;> (try exact zx)) | (with_reducible intro hz; (try exact absurd hz (Nat.succ_ne_zero _)))))
end Go.Proofs.YtamachahlhlhlaaDoor.Eng
