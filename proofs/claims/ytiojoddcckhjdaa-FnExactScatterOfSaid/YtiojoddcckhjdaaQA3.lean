/- Lemmas for the proof, no conditions of their own. -/
import Derived.Test.YtiojoddcckhjdaaQA2
import Derived.Test.YtiojoddcckhjdaaProg
import Derived.KernelRfl
import Derived.Sort.Grow
import Derived.Shelf.SlSortCmp.NoneTotal
import Derived.Lib.RowBridge
import Derived.Lib.SortBridge
import Derived.Ground.SlsfProg
set_option linter.unusedVariables false
set_option linter.unusedSimpArgs false
set_option maxRecDepth 100000
namespace Go.Proofs.Ytiojoddcckhjdaa.Eng
open Go Go.RowKit
def t_1 : TyD := { und := TypeDesc.func #[] #[] false, size := 1, bytes := 8, zero := [Value.nilFunc], fl := false }
theorem i_1 : TabE Try.prog (1, t_1, false) := ⟨by kernel_rfl, fun h => by simp at h⟩
def t_2 : TyD := { und := TypeDesc.int IntKind.i64, size := 1, bytes := 8, zero := [Value.int IntKind.i64 0], fl := true }
theorem i_2 : TabE Try.prog (2, t_2, false) := ⟨by kernel_rfl, fun h => by simp at h⟩
def t_3 : TyD := { und := TypeDesc.int IntKind.i64, size := 1, bytes := 8, zero := [Value.int IntKind.i64 0], fl := true }
theorem i_3 : TabE Try.prog (3, t_3, false) := ⟨by kernel_rfl, fun h => by simp at h⟩
def t_4 : TyD := { und := TypeDesc.bool, size := 1, bytes := 1, zero := [Value.bool false], fl := true }
theorem i_4 : TabE Try.prog (4, t_4, false) := ⟨by kernel_rfl, fun h => by simp at h⟩
def t_5 : TyD := { und := TypeDesc.int IntKind.u8, size := 1, bytes := 1, zero := [Value.int IntKind.u8 0], fl := true }
theorem i_5 : TabE Try.prog (5, t_5, false) := ⟨by kernel_rfl, fun h => by simp at h⟩
def t_6 : TyD := { und := TypeDesc.int IntKind.u8, size := 1, bytes := 1, zero := [Value.int IntKind.u8 0], fl := true }
theorem i_6 : TabE Try.prog (6, t_6, false) := ⟨by kernel_rfl, fun h => by simp at h⟩
def t_7 : TyD := { und := TypeDesc.struct #[{ name := "x", type := 2, offset := 0, embedded := false, tag := "", pkgPath := "runtime", byteOffset := 0 }, { name := "y", type := 3, offset := 1, embedded := false, tag := "", pkgPath := "runtime", byteOffset := 8 }, { name := "signed", type := 4, offset := 2, embedded := false, tag := "", pkgPath := "runtime", byteOffset := 16 }, { name := "code", type := 6, offset := 3, embedded := false, tag := "", pkgPath := "runtime", byteOffset := 17 }], size := 4, bytes := 24, zero := [Value.int IntKind.i64 0, Value.int IntKind.i64 0, Value.bool false, Value.int IntKind.u8 0], fl := true }
theorem i_7 : TabE Try.prog (7, t_7, true) := ⟨by kernel_rfl, fun _ => by kernel_rfl⟩
def t_8 : TyD := { und := TypeDesc.struct #[{ name := "x", type := 2, offset := 0, embedded := false, tag := "", pkgPath := "runtime", byteOffset := 0 }, { name := "y", type := 3, offset := 1, embedded := false, tag := "", pkgPath := "runtime", byteOffset := 8 }, { name := "signed", type := 4, offset := 2, embedded := false, tag := "", pkgPath := "runtime", byteOffset := 16 }, { name := "code", type := 6, offset := 3, embedded := false, tag := "", pkgPath := "runtime", byteOffset := 17 }], size := 4, bytes := 24, zero := [Value.int IntKind.i64 0, Value.int IntKind.i64 0, Value.bool false, Value.int IntKind.u8 0], fl := true }
theorem i_8 : TabE Try.prog (8, t_8, true) := ⟨by kernel_rfl, fun _ => by kernel_rfl⟩
def t_9 : TyD := { und := TypeDesc.string, size := 1, bytes := 16, zero := [Value.string ⟨#[]⟩], fl := true }
theorem i_9 : TabE Try.prog (9, t_9, false) := ⟨by kernel_rfl, fun h => by simp at h⟩
def t_10 : TyD := { und := TypeDesc.string, size := 1, bytes := 16, zero := [Value.string ⟨#[]⟩], fl := true }
theorem i_10 : TabE Try.prog (10, t_10, false) := ⟨by kernel_rfl, fun h => by simp at h⟩
def t_11 : TyD := { und := TypeDesc.string, size := 1, bytes := 16, zero := [Value.string ⟨#[]⟩], fl := true }
theorem i_11 : TabE Try.prog (11, t_11, false) := ⟨by kernel_rfl, fun h => by simp at h⟩
def t_12 : TyD := { und := TypeDesc.int IntKind.u64, size := 1, bytes := 8, zero := [Value.int IntKind.u64 0], fl := true }
theorem i_12 : TabE Try.prog (12, t_12, false) := ⟨by kernel_rfl, fun h => by simp at h⟩
def t_13 : TyD := { und := TypeDesc.struct #[{ name := "msg", type := 9, offset := 0, embedded := false, tag := "", pkgPath := "runtime", byteOffset := 0 }, { name := "addr", type := 12, offset := 1, embedded := false, tag := "", pkgPath := "runtime", byteOffset := 16 }], size := 2, bytes := 24, zero := [Value.string ⟨#[]⟩, Value.int IntKind.u64 0], fl := true }
theorem i_13 : TabE Try.prog (13, t_13, false) := ⟨by kernel_rfl, fun h => by simp at h⟩
def t_14 : TyD := { und := TypeDesc.struct #[{ name := "msg", type := 9, offset := 0, embedded := false, tag := "", pkgPath := "runtime", byteOffset := 0 }, { name := "addr", type := 12, offset := 1, embedded := false, tag := "", pkgPath := "runtime", byteOffset := 16 }], size := 2, bytes := 24, zero := [Value.string ⟨#[]⟩, Value.int IntKind.u64 0], fl := true }
theorem i_14 : TabE Try.prog (14, t_14, false) := ⟨by kernel_rfl, fun h => by simp at h⟩
def t_15 : TyD := { und := TypeDesc.pointer 107, size := 1, bytes := 8, zero := [Value.pointer none], fl := false }
theorem i_15 : TabE Try.prog (15, t_15, false) := ⟨by kernel_rfl, fun h => by simp at h⟩
def t_16 : TyD := { und := TypeDesc.pointer 110, size := 1, bytes := 8, zero := [Value.pointer none], fl := false }
theorem i_16 : TabE Try.prog (16, t_16, false) := ⟨by kernel_rfl, fun h => by simp at h⟩
def t_17 : TyD := { und := TypeDesc.pointer 119, size := 1, bytes := 8, zero := [Value.pointer none], fl := false }
theorem i_17 : TabE Try.prog (17, t_17, false) := ⟨by kernel_rfl, fun h => by simp at h⟩
def t_18 : TyD := { und := TypeDesc.struct #[{ name := "typ", type := 17, offset := 0, embedded := false, tag := "", pkgPath := "internal/runtime/maps", byteOffset := 0 }], size := 1, bytes := 8, zero := [Value.pointer none], fl := false }
theorem i_18 : TabE Try.prog (18, t_18, false) := ⟨by kernel_rfl, fun h => by simp at h⟩
def t_19 : TyD := { und := TypeDesc.struct #[{ name := "typ", type := 17, offset := 0, embedded := false, tag := "", pkgPath := "internal/runtime/maps", byteOffset := 0 }], size := 1, bytes := 8, zero := [Value.pointer none], fl := false }
theorem i_19 : TabE Try.prog (19, t_19, false) := ⟨by kernel_rfl, fun h => by simp at h⟩
def t_21 : TyD := { und := TypeDesc.int IntKind.i32, size := 1, bytes := 4, zero := [Value.int IntKind.i32 0], fl := true }
theorem i_21 : TabE Try.prog (21, t_21, false) := ⟨by kernel_rfl, fun h => by simp at h⟩
def t_22 : TyD := { und := TypeDesc.slice 2, size := 1, bytes := 24, zero := [Value.slice none 0 0], fl := false }
theorem i_22 : TabE Try.prog (22, t_22, false) := ⟨by kernel_rfl, fun h => by simp at h⟩
def t_23 : TyD := { und := TypeDesc.struct #[{ name := "P", type := 2, offset := 0, embedded := false, tag := "", pkgPath := "", byteOffset := 0 }, { name := "Q", type := 2, offset := 1, embedded := false, tag := "", pkgPath := "", byteOffset := 8 }], size := 2, bytes := 16, zero := [Value.int IntKind.i64 0, Value.int IntKind.i64 0], fl := true }
theorem i_23 : TabE Try.prog (23, t_23, true) := ⟨by kernel_rfl, fun _ => by kernel_rfl⟩
def t_24 : TyD := { und := TypeDesc.struct #[{ name := "P", type := 2, offset := 0, embedded := false, tag := "", pkgPath := "", byteOffset := 0 }, { name := "Q", type := 2, offset := 1, embedded := false, tag := "", pkgPath := "", byteOffset := 8 }], size := 2, bytes := 16, zero := [Value.int IntKind.i64 0, Value.int IntKind.i64 0], fl := true }
theorem i_24 : TabE Try.prog (24, t_24, true) := ⟨by kernel_rfl, fun _ => by kernel_rfl⟩
def t_26 : TyD := { und := TypeDesc.func #[22, 2] #[24, 2] false, size := 1, bytes := 8, zero := [Value.nilFunc], fl := false }
theorem i_26 : TabE Try.prog (26, t_26, false) := ⟨by kernel_rfl, fun h => by simp at h⟩
def t_27 : TyD := { und := TypeDesc.func #[22] #[22] false, size := 1, bytes := 8, zero := [Value.nilFunc], fl := false }
theorem i_27 : TabE Try.prog (27, t_27, false) := ⟨by kernel_rfl, fun h => by simp at h⟩
def t_28 : TyD := { und := TypeDesc.func #[24, 24] #[4] false, size := 1, bytes := 8, zero := [Value.nilFunc], fl := false }
theorem i_28 : TabE Try.prog (28, t_28, false) := ⟨by kernel_rfl, fun h => by simp at h⟩
def t_29 : TyD := { und := TypeDesc.func #[22, 22] #[4] false, size := 1, bytes := 8, zero := [Value.nilFunc], fl := false }
theorem i_29 : TabE Try.prog (29, t_29, false) := ⟨by kernel_rfl, fun h => by simp at h⟩
def t_30 : TyD := { und := TypeDesc.func #[22, 2] #[4] false, size := 1, bytes := 8, zero := [Value.nilFunc], fl := false }
theorem i_30 : TabE Try.prog (30, t_30, false) := ⟨by kernel_rfl, fun h => by simp at h⟩
def t_31 : TyD := { und := TypeDesc.func #[22] #[24, 2] false, size := 1, bytes := 8, zero := [Value.nilFunc], fl := false }
theorem i_31 : TabE Try.prog (31, t_31, false) := ⟨by kernel_rfl, fun h => by simp at h⟩
def t_32 : TyD := { und := TypeDesc.func #[22] #[4] false, size := 1, bytes := 8, zero := [Value.nilFunc], fl := false }
theorem i_32 : TabE Try.prog (32, t_32, false) := ⟨by kernel_rfl, fun h => by simp at h⟩
def t_34 : TyD := { und := TypeDesc.func #[22, 2] #[22, 2] false, size := 1, bytes := 8, zero := [Value.nilFunc], fl := false }
theorem i_34 : TabE Try.prog (34, t_34, false) := ⟨by kernel_rfl, fun h => by simp at h⟩
def t_35 : TyD := { und := TypeDesc.func #[22, 3] #[3] false, size := 1, bytes := 8, zero := [Value.nilFunc], fl := false }
theorem i_35 : TabE Try.prog (35, t_35, false) := ⟨by kernel_rfl, fun h => by simp at h⟩
def t_36 : TyD := { und := TypeDesc.func #[22] #[2] false, size := 1, bytes := 8, zero := [Value.nilFunc], fl := false }
theorem i_36 : TabE Try.prog (36, t_36, false) := ⟨by kernel_rfl, fun h => by simp at h⟩
def t_37 : TyD := { und := TypeDesc.func #[2, 2, 2] #[4] false, size := 1, bytes := 8, zero := [Value.nilFunc], fl := false }
theorem i_37 : TabE Try.prog (37, t_37, false) := ⟨by kernel_rfl, fun h => by simp at h⟩
def t_38 : TyD := { und := TypeDesc.func #[2, 2] #[24, 2] false, size := 1, bytes := 8, zero := [Value.nilFunc], fl := false }
theorem i_38 : TabE Try.prog (38, t_38, false) := ⟨by kernel_rfl, fun h => by simp at h⟩
def t_39 : TyD := { und := TypeDesc.func #[41] #[22] false, size := 1, bytes := 8, zero := [Value.nilFunc], fl := false }
theorem i_39 : TabE Try.prog (39, t_39, false) := ⟨by kernel_rfl, fun h => by simp at h⟩
def t_40 : TyD := { und := TypeDesc.func #[55] #[] false, size := 1, bytes := 8, zero := [Value.nilFunc], fl := false }
theorem i_40 : TabE Try.prog (40, t_40, false) := ⟨by kernel_rfl, fun h => by simp at h⟩
def t_41 : TyD := { und := TypeDesc.func #[55] #[] false, size := 1, bytes := 8, zero := [Value.nilFunc], fl := false }
theorem i_41 : TabE Try.prog (41, t_41, false) := ⟨by kernel_rfl, fun h => by simp at h⟩
def t_42 : TyD := { und := TypeDesc.func #[22] #[41] false, size := 1, bytes := 8, zero := [Value.nilFunc], fl := false }
theorem i_42 : TabE Try.prog (42, t_42, false) := ⟨by kernel_rfl, fun h => by simp at h⟩
def t_43 : TyD := { und := TypeDesc.pointer 45, size := 1, bytes := 8, zero := [Value.pointer none], fl := false }
theorem i_43 : TabE Try.prog (43, t_43, false) := ⟨by kernel_rfl, fun h => by simp at h⟩
def t_44 : TyD := { und := TypeDesc.struct #[{ name := "bad", type := 4, offset := 0, embedded := false, tag := "", pkgPath := "loop.example/g01254/impl", byteOffset := 0 }], size := 1, bytes := 1, zero := [Value.bool false], fl := true }
theorem i_44 : TabE Try.prog (44, t_44, true) := ⟨by kernel_rfl, fun _ => by kernel_rfl⟩
def t_45 : TyD := { und := TypeDesc.struct #[{ name := "bad", type := 4, offset := 0, embedded := false, tag := "", pkgPath := "loop.example/g01254/impl", byteOffset := 0 }], size := 1, bytes := 1, zero := [Value.bool false], fl := true }
theorem i_45 : TabE Try.prog (45, t_45, true) := ⟨by kernel_rfl, fun _ => by kernel_rfl⟩
def t_46 : TyD := { und := TypeDesc.func #[24] #[24, 2] false, size := 1, bytes := 8, zero := [Value.nilFunc], fl := false }
theorem i_46 : TabE Try.prog (46, t_46, false) := ⟨by kernel_rfl, fun h => by simp at h⟩
def t_47 : TyD := { und := TypeDesc.func #[48] #[24] false, size := 1, bytes := 8, zero := [Value.nilFunc], fl := false }
theorem i_47 : TabE Try.prog (47, t_47, false) := ⟨by kernel_rfl, fun h => by simp at h⟩
def t_48 : TyD := { und := TypeDesc.slice 24, size := 1, bytes := 24, zero := [Value.slice none 0 0], fl := false }
theorem i_48 : TabE Try.prog (48, t_48, false) := ⟨by kernel_rfl, fun h => by simp at h⟩
def t_49 : TyD := { und := TypeDesc.func #[22] #[48] false, size := 1, bytes := 8, zero := [Value.nilFunc], fl := false }
theorem i_49 : TabE Try.prog (49, t_49, false) := ⟨by kernel_rfl, fun h => by simp at h⟩
def t_50 : TyD := { und := TypeDesc.func #[24, 24] #[2] false, size := 1, bytes := 8, zero := [Value.nilFunc], fl := false }
theorem i_50 : TabE Try.prog (50, t_50, false) := ⟨by kernel_rfl, fun h => by simp at h⟩
def t_51 : TyD := { und := TypeDesc.func #[24, 24] #[24] false, size := 1, bytes := 8, zero := [Value.nilFunc], fl := false }
theorem i_51 : TabE Try.prog (51, t_51, false) := ⟨by kernel_rfl, fun h => by simp at h⟩
def t_52 : TyD := { und := TypeDesc.func #[2] #[24] false, size := 1, bytes := 8, zero := [Value.nilFunc], fl := false }
theorem i_52 : TabE Try.prog (52, t_52, false) := ⟨by kernel_rfl, fun h => by simp at h⟩
def t_53 : TyD := { und := TypeDesc.func #[22, 3, 3] #[22] false, size := 1, bytes := 8, zero := [Value.nilFunc], fl := false }
theorem i_53 : TabE Try.prog (53, t_53, false) := ⟨by kernel_rfl, fun h => by simp at h⟩
def t_54 : TyD := { und := TypeDesc.func #[3] #[4] false, size := 1, bytes := 8, zero := [Value.nilFunc], fl := false }
theorem i_54 : TabE Try.prog (54, t_54, false) := ⟨by kernel_rfl, fun h => by simp at h⟩
def t_55 : TyD := { und := TypeDesc.func #[2] #[4] false, size := 1, bytes := 8, zero := [Value.nilFunc], fl := false }
theorem i_55 : TabE Try.prog (55, t_55, false) := ⟨by kernel_rfl, fun h => by simp at h⟩
def t_56 : TyD := { und := TypeDesc.func #[2, 2] #[2] false, size := 1, bytes := 8, zero := [Value.nilFunc], fl := false }
theorem i_56 : TabE Try.prog (56, t_56, false) := ⟨by kernel_rfl, fun h => by simp at h⟩
def t_57 : TyD := { und := TypeDesc.func #[2] #[2] false, size := 1, bytes := 8, zero := [Value.nilFunc], fl := false }
theorem i_57 : TabE Try.prog (57, t_57, false) := ⟨by kernel_rfl, fun h => by simp at h⟩
def t_58 : TyD := { und := TypeDesc.func #[24] #[4] false, size := 1, bytes := 8, zero := [Value.nilFunc], fl := false }
theorem i_58 : TabE Try.prog (58, t_58, false) := ⟨by kernel_rfl, fun h => by simp at h⟩
def t_59 : TyD := { und := TypeDesc.func #[22, 55] #[4] false, size := 1, bytes := 8, zero := [Value.nilFunc], fl := false }
theorem i_59 : TabE Try.prog (59, t_59, false) := ⟨by kernel_rfl, fun h => by simp at h⟩
def t_60 : TyD := { und := TypeDesc.func #[22] #[] false, size := 1, bytes := 8, zero := [Value.nilFunc], fl := false }
theorem i_60 : TabE Try.prog (60, t_60, false) := ⟨by kernel_rfl, fun h => by simp at h⟩
def t_61 : TyD := { und := TypeDesc.func #[2, 2] #[24] false, size := 1, bytes := 8, zero := [Value.nilFunc], fl := false }
theorem i_61 : TabE Try.prog (61, t_61, false) := ⟨by kernel_rfl, fun h => by simp at h⟩
def t_62 : TyD := { und := TypeDesc.func #[48] #[48] false, size := 1, bytes := 8, zero := [Value.nilFunc], fl := false }
theorem i_62 : TabE Try.prog (62, t_62, false) := ⟨by kernel_rfl, fun h => by simp at h⟩
def t_63 : TyD := { und := TypeDesc.func #[24] #[24] false, size := 1, bytes := 8, zero := [Value.nilFunc], fl := false }
theorem i_63 : TabE Try.prog (63, t_63, false) := ⟨by kernel_rfl, fun h => by simp at h⟩
def t_64 : TyD := { und := TypeDesc.func #[22, 55] #[3] false, size := 1, bytes := 8, zero := [Value.nilFunc], fl := false }
theorem i_64 : TabE Try.prog (64, t_64, false) := ⟨by kernel_rfl, fun h => by simp at h⟩
def t_65 : TyD := { und := TypeDesc.func #[22, 41] #[22] false, size := 1, bytes := 8, zero := [Value.nilFunc], fl := false }
theorem i_65 : TabE Try.prog (65, t_65, false) := ⟨by kernel_rfl, fun h => by simp at h⟩
def t_66 : TyD := { und := TypeDesc.func #[22, 3, 3, 3] #[] false, size := 1, bytes := 8, zero := [Value.nilFunc], fl := false }
theorem i_66 : TabE Try.prog (66, t_66, false) := ⟨by kernel_rfl, fun h => by simp at h⟩
def t_67 : TyD := { und := TypeDesc.func #[68] #[3] false, size := 1, bytes := 8, zero := [Value.nilFunc], fl := false }
theorem i_67 : TabE Try.prog (67, t_67, false) := ⟨by kernel_rfl, fun h => by simp at h⟩
def t_68 : TyD := { und := TypeDesc.int IntKind.u64, size := 1, bytes := 8, zero := [Value.int IntKind.u64 0], fl := true }
theorem i_68 : TabE Try.prog (68, t_68, false) := ⟨by kernel_rfl, fun h => by simp at h⟩
def t_70 : TyD := { und := TypeDesc.func #[2, 2] #[24, 4] false, size := 1, bytes := 8, zero := [Value.nilFunc], fl := false }
theorem i_70 : TabE Try.prog (70, t_70, false) := ⟨by kernel_rfl, fun h => by simp at h⟩
def t_71 : TyD := { und := TypeDesc.func #[] #[24] false, size := 1, bytes := 8, zero := [Value.nilFunc], fl := false }
theorem i_71 : TabE Try.prog (71, t_71, false) := ⟨by kernel_rfl, fun h => by simp at h⟩
def t_72 : TyD := { und := TypeDesc.func #[48, 73] #[] false, size := 1, bytes := 8, zero := [Value.nilFunc], fl := false }
theorem i_72 : TabE Try.prog (72, t_72, false) := ⟨by kernel_rfl, fun h => by simp at h⟩
def t_73 : TyD := { und := TypeDesc.func #[24, 24] #[3] false, size := 1, bytes := 8, zero := [Value.nilFunc], fl := false }
theorem i_73 : TabE Try.prog (73, t_73, false) := ⟨by kernel_rfl, fun h => by simp at h⟩
def t_74 : TyD := { und := TypeDesc.func #[22, 3, 3] #[] false, size := 1, bytes := 8, zero := [Value.nilFunc], fl := false }
theorem i_74 : TabE Try.prog (74, t_74, false) := ⟨by kernel_rfl, fun h => by simp at h⟩
def t_75 : TyD := { und := TypeDesc.int IntKind.i64, size := 1, bytes := 8, zero := [Value.int IntKind.i64 0], fl := true }
theorem i_75 : TabE Try.prog (75, t_75, false) := ⟨by kernel_rfl, fun h => by simp at h⟩
def t_77 : TyD := { und := TypeDesc.func #[22, 3, 3] #[3, 75] false, size := 1, bytes := 8, zero := [Value.nilFunc], fl := false }
theorem i_77 : TabE Try.prog (77, t_77, false) := ⟨by kernel_rfl, fun h => by simp at h⟩
def t_78 : TyD := { und := TypeDesc.func #[22, 3, 3] #[4] false, size := 1, bytes := 8, zero := [Value.nilFunc], fl := false }
theorem i_78 : TabE Try.prog (78, t_78, false) := ⟨by kernel_rfl, fun h => by simp at h⟩
def t_79 : TyD := { und := TypeDesc.func #[2, 2] #[4] false, size := 1, bytes := 8, zero := [Value.nilFunc], fl := false }
theorem i_79 : TabE Try.prog (79, t_79, false) := ⟨by kernel_rfl, fun h => by simp at h⟩
def t_80 : TyD := { und := TypeDesc.func #[22, 3, 3, 3] #[3] false, size := 1, bytes := 8, zero := [Value.nilFunc], fl := false }
theorem i_80 : TabE Try.prog (80, t_80, false) := ⟨by kernel_rfl, fun h => by simp at h⟩
def t_82 : TyD := { und := TypeDesc.func #[22, 3, 3, 3] #[3, 4] false, size := 1, bytes := 8, zero := [Value.nilFunc], fl := false }
theorem i_82 : TabE Try.prog (82, t_82, false) := ⟨by kernel_rfl, fun h => by simp at h⟩
def t_83 : TyD := { und := TypeDesc.func #[84] #[3] false, size := 1, bytes := 8, zero := [Value.nilFunc], fl := false }
theorem i_83 : TabE Try.prog (83, t_83, false) := ⟨by kernel_rfl, fun h => by simp at h⟩
def t_84 : TyD := { und := TypeDesc.int IntKind.u32, size := 1, bytes := 4, zero := [Value.int IntKind.u32 0], fl := true }
theorem i_84 : TabE Try.prog (84, t_84, false) := ⟨by kernel_rfl, fun h => by simp at h⟩
def t_85 : TyD := { und := TypeDesc.func #[86] #[3] false, size := 1, bytes := 8, zero := [Value.nilFunc], fl := false }
theorem i_85 : TabE Try.prog (85, t_85, false) := ⟨by kernel_rfl, fun h => by simp at h⟩
def t_86 : TyD := { und := TypeDesc.int IntKind.u64, size := 1, bytes := 8, zero := [Value.int IntKind.u64 0], fl := true }
theorem i_86 : TabE Try.prog (86, t_86, false) := ⟨by kernel_rfl, fun h => by simp at h⟩
def t_87 : TyD := { und := TypeDesc.func #[48, 3, 3, 3, 73] #[] false, size := 1, bytes := 8, zero := [Value.nilFunc], fl := false }
theorem i_87 : TabE Try.prog (87, t_87, false) := ⟨by kernel_rfl, fun h => by simp at h⟩
def t_88 : TyD := { und := TypeDesc.int IntKind.u64, size := 1, bytes := 8, zero := [Value.int IntKind.u64 0], fl := true }
theorem i_88 : TabE Try.prog (88, t_88, false) := ⟨by kernel_rfl, fun h => by simp at h⟩
def t_89 : TyD := { und := TypeDesc.func #[3] #[68] false, size := 1, bytes := 8, zero := [Value.nilFunc], fl := false }
theorem i_89 : TabE Try.prog (89, t_89, false) := ⟨by kernel_rfl, fun h => by simp at h⟩
def t_90 : TyD := { und := TypeDesc.func #[] #[86] false, size := 1, bytes := 8, zero := [Value.nilFunc], fl := false }
theorem i_90 : TabE Try.prog (90, t_90, false) := ⟨by kernel_rfl, fun h => by simp at h⟩
def t_91 : TyD := { und := TypeDesc.func #[22, 3, 92] #[3] false, size := 1, bytes := 8, zero := [Value.nilFunc], fl := false }
theorem i_91 : TabE Try.prog (91, t_91, false) := ⟨by kernel_rfl, fun h => by simp at h⟩
def t_92 : TyD := { und := TypeDesc.pointer 3, size := 1, bytes := 8, zero := [Value.pointer none], fl := false }
theorem i_92 : TabE Try.prog (92, t_92, false) := ⟨by kernel_rfl, fun h => by simp at h⟩
def t_93 : TyD := { und := TypeDesc.func #[22, 3, 3, 3, 92] #[3] false, size := 1, bytes := 8, zero := [Value.nilFunc], fl := false }
theorem i_93 : TabE Try.prog (93, t_93, false) := ⟨by kernel_rfl, fun h => by simp at h⟩
def t_94 : TyD := { und := TypeDesc.func #[48, 3, 3, 73] #[] false, size := 1, bytes := 8, zero := [Value.nilFunc], fl := false }
theorem i_94 : TabE Try.prog (94, t_94, false) := ⟨by kernel_rfl, fun h => by simp at h⟩
def t_95 : TyD := { und := TypeDesc.func #[48, 3, 3, 73] #[3, 75] false, size := 1, bytes := 8, zero := [Value.nilFunc], fl := false }
theorem i_95 : TabE Try.prog (95, t_95, false) := ⟨by kernel_rfl, fun h => by simp at h⟩
def t_96 : TyD := { und := TypeDesc.func #[48, 3, 3, 73] #[4] false, size := 1, bytes := 8, zero := [Value.nilFunc], fl := false }
theorem i_96 : TabE Try.prog (96, t_96, false) := ⟨by kernel_rfl, fun h => by simp at h⟩
def t_97 : TyD := { und := TypeDesc.func #[48, 3, 3, 3, 73] #[3] false, size := 1, bytes := 8, zero := [Value.nilFunc], fl := false }
theorem i_97 : TabE Try.prog (97, t_97, false) := ⟨by kernel_rfl, fun h => by simp at h⟩
def t_98 : TyD := { und := TypeDesc.func #[48, 3, 3, 3, 73] #[3, 4] false, size := 1, bytes := 8, zero := [Value.nilFunc], fl := false }
theorem i_98 : TabE Try.prog (98, t_98, false) := ⟨by kernel_rfl, fun h => by simp at h⟩
def t_99 : TyD := { und := TypeDesc.pointer 88, size := 1, bytes := 8, zero := [Value.pointer none], fl := false }
theorem i_99 : TabE Try.prog (99, t_99, false) := ⟨by kernel_rfl, fun h => by simp at h⟩
def t_101 : TyD := { und := TypeDesc.func #[22, 3, 3, 92] #[3, 3] false, size := 1, bytes := 8, zero := [Value.nilFunc], fl := false }
theorem i_101 : TabE Try.prog (101, t_101, false) := ⟨by kernel_rfl, fun h => by simp at h⟩
def t_102 : TyD := { und := TypeDesc.func #[48, 3, 92, 73] #[3] false, size := 1, bytes := 8, zero := [Value.nilFunc], fl := false }
theorem i_102 : TabE Try.prog (102, t_102, false) := ⟨by kernel_rfl, fun h => by simp at h⟩
def t_103 : TyD := { und := TypeDesc.func #[48, 3, 3, 3, 92, 73] #[3] false, size := 1, bytes := 8, zero := [Value.nilFunc], fl := false }
theorem i_103 : TabE Try.prog (103, t_103, false) := ⟨by kernel_rfl, fun h => by simp at h⟩
def t_104 : TyD := { und := TypeDesc.func #[48, 3, 3, 92, 73] #[3, 3] false, size := 1, bytes := 8, zero := [Value.nilFunc], fl := false }
theorem i_104 : TabE Try.prog (104, t_104, false) := ⟨by kernel_rfl, fun h => by simp at h⟩
def t_105 : TyD := { und := TypeDesc.func #[] #[9] false, size := 1, bytes := 8, zero := [Value.nilFunc], fl := false }
theorem i_105 : TabE Try.prog (105, t_105, false) := ⟨by kernel_rfl, fun h => by simp at h⟩
def t_106 : TyD := { und := TypeDesc.struct #[{ name := "_interface", type := 17, offset := 0, embedded := false, tag := "", pkgPath := "runtime", byteOffset := 0 }, { name := "concrete", type := 17, offset := 1, embedded := false, tag := "", pkgPath := "runtime", byteOffset := 8 }, { name := "asserted", type := 17, offset := 2, embedded := false, tag := "", pkgPath := "runtime", byteOffset := 16 }, { name := "missingMethod", type := 9, offset := 3, embedded := false, tag := "", pkgPath := "runtime", byteOffset := 24 }], size := 4, bytes := 40, zero := [Value.pointer none, Value.pointer none, Value.pointer none, Value.string ⟨#[]⟩], fl := false }
theorem i_106 : TabE Try.prog (106, t_106, false) := ⟨by kernel_rfl, fun h => by simp at h⟩
def t_107 : TyD := { und := TypeDesc.struct #[{ name := "_interface", type := 17, offset := 0, embedded := false, tag := "", pkgPath := "runtime", byteOffset := 0 }, { name := "concrete", type := 17, offset := 1, embedded := false, tag := "", pkgPath := "runtime", byteOffset := 8 }, { name := "asserted", type := 17, offset := 2, embedded := false, tag := "", pkgPath := "runtime", byteOffset := 16 }, { name := "missingMethod", type := 9, offset := 3, embedded := false, tag := "", pkgPath := "runtime", byteOffset := 24 }], size := 4, bytes := 40, zero := [Value.pointer none, Value.pointer none, Value.pointer none, Value.string ⟨#[]⟩], fl := false }
theorem i_107 : TabE Try.prog (107, t_107, false) := ⟨by kernel_rfl, fun h => by simp at h⟩
def t_108 : TyD := { und := TypeDesc.array 0 16, size := 0, bytes := 0, zero := [], fl := false }
theorem i_108 : TabE Try.prog (108, t_108, false) := ⟨by kernel_rfl, fun h => by simp at h⟩
def t_109 : TyD := { und := TypeDesc.struct #[{ name := "_", type := 108, offset := 0, embedded := false, tag := "", pkgPath := "runtime", byteOffset := 0 }], size := 0, bytes := 0, zero := [], fl := false }
theorem i_109 : TabE Try.prog (109, t_109, false) := ⟨by kernel_rfl, fun h => by simp at h⟩
def t_110 : TyD := { und := TypeDesc.struct #[{ name := "_", type := 108, offset := 0, embedded := false, tag := "", pkgPath := "runtime", byteOffset := 0 }], size := 0, bytes := 0, zero := [], fl := false }
theorem i_110 : TabE Try.prog (110, t_110, false) := ⟨by kernel_rfl, fun h => by simp at h⟩
def t_111 : TyD := { und := TypeDesc.func #[] #[3] false, size := 1, bytes := 8, zero := [Value.nilFunc], fl := false }
theorem i_111 : TabE Try.prog (111, t_111, false) := ⟨by kernel_rfl, fun h => by simp at h⟩
def t_112 : TyD := { und := TypeDesc.int IntKind.u8, size := 1, bytes := 1, zero := [Value.int IntKind.u8 0], fl := true }
theorem i_112 : TabE Try.prog (112, t_112, false) := ⟨by kernel_rfl, fun h => by simp at h⟩
def t_113 : TyD := { und := TypeDesc.int IntKind.u8, size := 1, bytes := 1, zero := [Value.int IntKind.u8 0], fl := true }
theorem i_113 : TabE Try.prog (113, t_113, false) := ⟨by kernel_rfl, fun h => by simp at h⟩
def t_114 : TyD := { und := TypeDesc.func #[121, 121] #[4] false, size := 1, bytes := 8, zero := [Value.nilFunc], fl := false }
theorem i_114 : TabE Try.prog (114, t_114, false) := ⟨by kernel_rfl, fun h => by simp at h⟩
def t_115 : TyD := { und := TypeDesc.pointer 5, size := 1, bytes := 8, zero := [Value.pointer none], fl := false }
theorem i_115 : TabE Try.prog (115, t_115, false) := ⟨by kernel_rfl, fun h => by simp at h⟩
def t_116 : TyD := { und := TypeDesc.int IntKind.i32, size := 1, bytes := 4, zero := [Value.int IntKind.i32 0], fl := true }
theorem i_116 : TabE Try.prog (116, t_116, false) := ⟨by kernel_rfl, fun h => by simp at h⟩
def t_117 : TyD := { und := TypeDesc.int IntKind.i32, size := 1, bytes := 4, zero := [Value.int IntKind.i32 0], fl := true }
theorem i_117 : TabE Try.prog (117, t_117, false) := ⟨by kernel_rfl, fun h => by simp at h⟩
def t_118 : TyD := { und := TypeDesc.struct #[{ name := "Size_", type := 12, offset := 0, embedded := false, tag := "", pkgPath := "", byteOffset := 0 }, { name := "PtrBytes", type := 12, offset := 1, embedded := false, tag := "", pkgPath := "", byteOffset := 8 }, { name := "Hash", type := 84, offset := 2, embedded := false, tag := "", pkgPath := "", byteOffset := 16 }, { name := "TFlag", type := 112, offset := 3, embedded := false, tag := "", pkgPath := "", byteOffset := 20 }, { name := "Align_", type := 5, offset := 4, embedded := false, tag := "", pkgPath := "", byteOffset := 21 }, { name := "FieldAlign_", type := 5, offset := 5, embedded := false, tag := "", pkgPath := "", byteOffset := 22 }, { name := "Kind_", type := 113, offset := 6, embedded := false, tag := "", pkgPath := "", byteOffset := 23 }, { name := "Equal", type := 114, offset := 7, embedded := false, tag := "", pkgPath := "", byteOffset := 24 }, { name := "GCData", type := 115, offset := 8, embedded := false, tag := "", pkgPath := "", byteOffset := 32 }, { name := "Str", type := 116, offset := 9, embedded := false, tag := "", pkgPath := "", byteOffset := 40 }, { name := "PtrToThis", type := 117, offset := 10, embedded := false, tag := "", pkgPath := "", byteOffset := 44 }], size := 11, bytes := 48, zero := [Value.int IntKind.u64 0, Value.int IntKind.u64 0, Value.int IntKind.u32 0, Value.int IntKind.u8 0, Value.int IntKind.u8 0, Value.int IntKind.u8 0, Value.int IntKind.u8 0, Value.nilFunc, Value.pointer none, Value.int IntKind.i32 0, Value.int IntKind.i32 0], fl := false }
theorem i_118 : TabE Try.prog (118, t_118, false) := ⟨by kernel_rfl, fun h => by simp at h⟩
def t_119 : TyD := { und := TypeDesc.struct #[{ name := "Size_", type := 12, offset := 0, embedded := false, tag := "", pkgPath := "", byteOffset := 0 }, { name := "PtrBytes", type := 12, offset := 1, embedded := false, tag := "", pkgPath := "", byteOffset := 8 }, { name := "Hash", type := 84, offset := 2, embedded := false, tag := "", pkgPath := "", byteOffset := 16 }, { name := "TFlag", type := 112, offset := 3, embedded := false, tag := "", pkgPath := "", byteOffset := 20 }, { name := "Align_", type := 5, offset := 4, embedded := false, tag := "", pkgPath := "", byteOffset := 21 }, { name := "FieldAlign_", type := 5, offset := 5, embedded := false, tag := "", pkgPath := "", byteOffset := 22 }, { name := "Kind_", type := 113, offset := 6, embedded := false, tag := "", pkgPath := "", byteOffset := 23 }, { name := "Equal", type := 114, offset := 7, embedded := false, tag := "", pkgPath := "", byteOffset := 24 }, { name := "GCData", type := 115, offset := 8, embedded := false, tag := "", pkgPath := "", byteOffset := 32 }, { name := "Str", type := 116, offset := 9, embedded := false, tag := "", pkgPath := "", byteOffset := 40 }, { name := "PtrToThis", type := 117, offset := 10, embedded := false, tag := "", pkgPath := "", byteOffset := 44 }], size := 11, bytes := 48, zero := [Value.int IntKind.u64 0, Value.int IntKind.u64 0, Value.int IntKind.u32 0, Value.int IntKind.u8 0, Value.int IntKind.u8 0, Value.int IntKind.u8 0, Value.int IntKind.u8 0, Value.nilFunc, Value.pointer none, Value.int IntKind.i32 0, Value.int IntKind.i32 0], fl := false }
theorem i_119 : TabE Try.prog (119, t_119, false) := ⟨by kernel_rfl, fun h => by simp at h⟩
def t_120 : TyD := { und := TypeDesc.func #[] #[2] false, size := 1, bytes := 8, zero := [Value.nilFunc], fl := false }
theorem i_120 : TabE Try.prog (120, t_120, false) := ⟨by kernel_rfl, fun h => by simp at h⟩
def t_121 : TyD := { und := TypeDesc.unsafePointer, size := 1, bytes := 8, zero := [Value.pointer none], fl := false }
theorem i_121 : TabE Try.prog (121, t_121, false) := ⟨by kernel_rfl, fun h => by simp at h⟩
def tyTab : List (Nat × TyD × Bool) := [(1, t_1, false), (2, t_2, false), (3, t_3, false), (4, t_4, false), (5, t_5, false), (6, t_6, false), (7, t_7, true), (8, t_8, true), (9, t_9, false), (10, t_10, false), (11, t_11, false), (12, t_12, false), (13, t_13, false), (14, t_14, false), (15, t_15, false), (16, t_16, false), (17, t_17, false), (18, t_18, false), (19, t_19, false), (21, t_21, false), (22, t_22, false), (23, t_23, true), (24, t_24, true), (26, t_26, false), (27, t_27, false), (28, t_28, false), (29, t_29, false), (30, t_30, false), (31, t_31, false), (32, t_32, false), (34, t_34, false), (35, t_35, false), (36, t_36, false), (37, t_37, false), (38, t_38, false), (39, t_39, false), (40, t_40, false), (41, t_41, false), (42, t_42, false), (43, t_43, false), (44, t_44, true), (45, t_45, true), (46, t_46, false), (47, t_47, false), (48, t_48, false), (49, t_49, false), (50, t_50, false), (51, t_51, false), (52, t_52, false), (53, t_53, false), (54, t_54, false), (55, t_55, false), (56, t_56, false), (57, t_57, false), (58, t_58, false), (59, t_59, false), (60, t_60, false), (61, t_61, false), (62, t_62, false), (63, t_63, false), (64, t_64, false), (65, t_65, false), (66, t_66, false), (67, t_67, false), (68, t_68, false), (70, t_70, false), (71, t_71, false), (72, t_72, false), (73, t_73, false), (74, t_74, false), (75, t_75, false), (77, t_77, false), (78, t_78, false), (79, t_79, false), (80, t_80, false), (82, t_82, false), (83, t_83, false), (84, t_84, false), (85, t_85, false), (86, t_86, false), (87, t_87, false), (88, t_88, false), (89, t_89, false), (90, t_90, false), (91, t_91, false), (92, t_92, false), (93, t_93, false), (94, t_94, false), (95, t_95, false), (96, t_96, false), (97, t_97, false), (98, t_98, false), (99, t_99, false), (101, t_101, false), (102, t_102, false), (103, t_103, false), (104, t_104, false), (105, t_105, false), (106, t_106, false), (107, t_107, false), (108, t_108, false), (109, t_109, false), (110, t_110, false), (111, t_111, false), (112, t_112, false), (113, t_113, false), (114, t_114, false), (115, t_115, false), (116, t_116, false), (117, t_117, false), (118, t_118, false), (119, t_119, false), (120, t_120, false), (121, t_121, false)]
@[reducible] def T0 : Ty := lookT tyTab
@[reducible] def Q0 : Nat → Bool := lookQ tyTab
theorem tabOk : TabOk Try.prog T0 Q0 := tab_ok (l := tyTab) (⟨i_1, i_2, i_3, i_4, i_5, i_6, i_7, i_8, i_9, i_10, i_11, i_12, i_13, i_14, i_15, i_16, i_17, i_18, i_19, i_21, i_22, i_23, i_24, i_26, i_27, i_28, i_29, i_30, i_31, i_32, i_34, i_35, i_36, i_37, i_38, i_39, i_40, i_41, i_42, i_43, i_44, i_45, i_46, i_47, i_48, i_49, i_50, i_51, i_52, i_53, i_54, i_55, i_56, i_57, i_58, i_59, i_60, i_61, i_62, i_63, i_64, i_65, i_66, i_67, i_68, i_70, i_71, i_72, i_73, i_74, i_75, i_77, i_78, i_79, i_80, i_82, i_83, i_84, i_85, i_86, i_87, i_88, i_89, i_90, i_91, i_92, i_93, i_94, i_95, i_96, i_97, i_98, i_99, i_101, i_102, i_103, i_104, i_105, i_106, i_107, i_108, i_109, i_110, i_111, i_112, i_113, i_114, i_115, i_116, i_117, i_118, i_119, i_120, i_121, trivial⟩)
end Go.Proofs.Ytiojoddcckhjdaa.Eng
set_option linter.unusedVariables false
set_option linter.unusedSimpArgs false
namespace Go.Proofs.Ytiojoddcckhjdaa.Eng
open Go Go.RowKit
set_option maxRecDepth 100000
theorem tmod_lt {a b : Int} (h : b ≠ 0) : (a.tmod b).natAbs < b.natAbs := by
  rw [Int.natAbs_tmod]; exact Nat.mod_lt _ (by omega)
theorem gcd_tmod {a b : Int} : Int.gcd b (a.tmod b) = Int.gcd a b := by
  simp only [Int.gcd, Int.natAbs_tmod]
  rw [Nat.gcd_comm, ← Nat.gcd_rec, Nat.gcd_comm]
theorem seg_get {α : Type} {l : List α} {s n i : Nat} {a : α} (h : (seg l s n)[i]? = some a) : l[s + i]? = some a ∧ i < n := by
  unfold seg at h
  rw [List.getElem?_take] at h
  split at h
  · rw [List.getElem?_drop] at h; exact ⟨h, by assumption⟩
  · simp at h
theorem seg_len {α : Type} {l : List α} {s n : Nat} (h : s + n ≤ l.length) : (seg l s n).length = n := by
  simp [seg]; omega
theorem atL_i {α : Type} {l : List α} {s n i : Nat} {a : α} {K : α → Prop} (ha : (seg l s n)[i]? = some a) (h : K a) : atL l (s + ((i : Nat) : Int).toNat) K :=
  atL_iff.2 ⟨a, by simpa using (seg_get ha).1, h⟩
theorem atL_0 {α : Type} {l : List α} {i : Nat} {a : α} {K : α → Prop} (ha : l[i]? = some a) (h : K a) : atL l (0 + ((i : Nat) : Int).toNat) K :=
  atL_iff.2 ⟨a, by simpa using ha, h⟩
theorem seg_all {α : Type} (l : List α) : seg l 0 l.length = l := by simp [seg]
theorem seg_full {α : Type} {l : List α} {n : Nat} (h : l.length = n) : seg l 0 n = l := by simp [seg, ← h]
theorem get_some {α : Type} {l : List α} {i : Nat} (h : i < l.length) : ∃ a, l[i]? = some a := ⟨l[i], by simp [h]⟩
/-- The first place where p holds, or -1. -/
def findI {α : Type} (p : α → Bool) (l : List α) : Int := if l.any p = true then (l.findIdx p : Int) else -1
theorem findI_none {α : Type} {p : α → Bool} {l : List α} (h : ∀ (j : Nat) a, l[j]? = some a → p a = false) : findI p l = -1 := by
  unfold findI
  rw [if_neg]
  rw [List.any_eq_true]
  rintro ⟨a, ha, hp⟩
  obtain ⟨j, hj⟩ := List.getElem?_of_mem ha
  rw [h j a hj] at hp; simp at hp
theorem findI_some {α : Type} {p : α → Bool} {l : List α} {i : Nat} {a : α} (ha : l[i]? = some a) (hp : p a = true) (h : ∀ (j : Nat) a, j < i → l[j]? = some a → p a = false) : findI p l = i := by
  unfold findI
  rw [if_pos (List.any_eq_true.2 ⟨a, List.mem_of_getElem? ha, hp⟩)]
  obtain ⟨hi, e⟩ := List.getElem?_eq_some_iff.1 ha
  have : l.findIdx p = i := by
    rw [List.findIdx_eq hi]
    exact ⟨by rw [e]; exact hp, fun j hj => h j _ hj (by simp)⟩
  rw [this]
theorem findI_any {α : Type} (p : α → Bool) (l : List α) : decide (0 ≤ findI p l) = l.any p := by
  unfold findI
  split
  · rename_i h; rw [h]; simp
  · rename_i h
    have : l.any p = false := by simpa using h
    rw [this]; rfl
theorem app_take {α : Type} {D : List α} {i : Nat} {w : α} (h : D[i]? = some w) : seg (D.take i) 0 i ++ seg [w] 0 1 = D.take (i + 1) := by
  have hl := (List.getElem?_eq_some_iff.1 h).1
  rw [seg_full (by rw [List.length_take]; omega), List.take_add_one, h]; rfl
/-- Filling a row from the left. -/
theorem fill_step {α : Type} {L : List α} {z a : α} {i n : Nat} (hn : L.length = n) (ha : L[i]? = some a) : (L.take i ++ List.replicate (n - i) z).set i a = L.take (i + 1) ++ List.replicate (n - (i + 1)) z := by
  obtain ⟨hi, e⟩ := List.getElem?_eq_some_iff.1 ha
  have h1 : (L.take i).length = i := by simp; omega
  rw [List.set_append_right _ _ (by omega), h1, Nat.sub_self, show n - i = (n - (i + 1)) + 1 by omega, List.replicate_succ, List.set_cons_zero]
  rw [List.take_add_one, ha]; simp
theorem fill_at {α : Type} {L : List α} {z : α} {i n : Nat} (hn : L.length = n) (hi : i < n) : (L.take i ++ List.replicate (n - i) z)[i]? = some z := by
  have h1 : (L.take i).length = i := by simp; omega
  rw [List.getElem?_append_right (by omega), h1, Nat.sub_self, List.getElem?_replicate, if_pos (by omega)]
theorem fill_end {α : Type} {L : List α} {z : α} {n : Nat} (hn : L.length = n) : L.take n ++ List.replicate (n - n) z = L := by
  simp [← hn]
/-- Two rows alike so far. -/
theorem same_end {α : Type} {L M : List α} {n : Nat} (h1 : L.length = n) (h2 : M.length = n) (h : L.take n = M.take n) : L = M := by
  rwa [List.take_of_length_le (by omega), List.take_of_length_le (by omega)] at h
theorem same_step {α : Type} {L M : List α} {i : Nat} {a b : α} (ha : L[i]? = some a) (hb : M[i]? = some b) (h : L.take i = M.take i) (hab : a = b) : L.take (i + 1) = M.take (i + 1) := by
  rw [List.take_add_one, List.take_add_one, h, ha, hb, hab]
theorem same_not {α : Type} {L M : List α} {i : Nat} {a b : α} (ha : L[i]? = some a) (hb : M[i]? = some b) (hab : a ≠ b) : L ≠ M := by
  rintro rfl
  rw [ha] at hb; exact hab (Option.some.inj hb)
theorem all_yes {α : Type} {p : α → Bool} {L : List α} {n : Nat} (hn : L.length ≤ n) (h : ∀ (j : Nat) a, j < n → L[j]? = some a → p a = true) : L.all p = true := by
  rw [List.all_eq_true]
  intro a ha
  obtain ⟨j, hj⟩ := List.getElem?_of_mem ha
  exact h j a (by have := (List.getElem?_eq_some_iff.1 hj).1; omega) hj
theorem all_no {α : Type} {p : α → Bool} {L : List α} {i : Nat} {a : α} (ha : L[i]? = some a) (hp : p a = false) : L.all p = false := by
  rw [List.all_eq_false]
  exact ⟨a, List.mem_of_getElem? ha, by simp [hp]⟩
/-- One more place where something holds. -/
theorem upto_step {α : Type} {p : α → Prop} {L : List α} {i : Nat} {a : α} (ha : L[i]? = some a) (hp : p a) (h : ∀ (j : Nat) b, j < i → L[j]? = some b → p b) : ∀ (j : Nat) b, j < i + 1 → L[j]? = some b → p b := fun j b hj hb => by
  by_cases e : j < i
  · exact h j b e hb
  · obtain rfl : j = i := by omega
    rw [ha] at hb; obtain rfl := Option.some.inj hb; exact hp
/-- Tests whose outcome is known. -/
theorem splitT_of {b : Bool} {A B : Prop} (h : b = true) (k : A) : splitB b A B := by subst h; exact splitT k
theorem splitF_of {b : Bool} {A B : Prop} (h : b = false) (k : B) : splitB b A B := by subst h; exact splitF k
def s_within : Spec := fun args S => match args, S with
  | [.int .i64 n, .int .i64 a, .int .i64 b], [] => ⟨True, .bool (decide (a ≤ n ∧ n ≤ b)), []⟩
  | _, _ => noSpec
theorem ok_within : SpecOk Try.prog 25 s_within := by
  intro args S h; unfold s_within at h ⊢; (split at h <;> first | exact False.elim h | skip)
  dsimp only at h ⊢
  refine funW tabOk (E := []) trivial [] (k := 0) (fn := Try.f25) rfl rfl rfl rfl rfl rfl ?_
  (repeat' ((try (conv => whnf)); first | (with_reducible first | refine And.intro ?_ ?_ | refine WX.of ?_) | exact zc | ((with_reducible refine VC.mk ?_); exact zw) | (with_reducible first | refine splitT ?_ | refine splitF ?_) | ((with_reducible refine splitM.mk (fun hsm => ?_) (fun hsm => ?_)) <;> (try exact zx)) | ((with_reducible refine splitB.mk (fun h => ?_) (fun h => ?_)) <;> (try simp only [zs, ne_eq] at h) <;> (try simp (disch := omega) only [w64] at h) <;> (try exact zx)) | (with_reducible intro hz; (try exact absurd hz (Nat.succ_ne_zero _)))))
  all_goals (first | exact ⟨rfl⟩ | (refine ⟨?_⟩; simp_all; done) | (refine ⟨?_⟩; simp_all; omega))
theorem ok_l00In : SpecOk Try.prog 21 s_within := by
  intro args S h; unfold s_within at h ⊢; (split at h <;> first | exact False.elim h | skip)
  dsimp only at h ⊢
  refine funW tabOk (E := []) trivial [] (k := 0) (fn := Try.f21) rfl rfl rfl rfl rfl rfl ?_
  (repeat' ((try (conv => whnf)); first | (with_reducible first | refine And.intro ?_ ?_ | refine WX.of ?_) | exact zc | ((with_reducible refine VC.mk ?_); exact zw) | (with_reducible first | refine splitT ?_ | refine splitF ?_) | ((with_reducible refine splitM.mk (fun hsm => ?_) (fun hsm => ?_)) <;> (try exact zx)) | ((with_reducible refine splitB.mk (fun h => ?_) (fun h => ?_)) <;> (try simp only [zs, ne_eq] at h) <;> (try simp (disch := omega) only [w64] at h) <;> (try exact zx)) | (with_reducible intro hz; (try exact absurd hz (Nat.succ_ne_zero _)))))
  all_goals (first | exact ⟨rfl⟩ | (refine ⟨?_⟩; simp_all; done) | (refine ⟨?_⟩; simp_all; omega))
/-- The sizes of all elements. -/
def tot {α : Type} (f : α → Nat) (l : List α) : Nat := (l.map f).sum
def s_gcd : Spec := fun args S => match args, S with
  | [.int .i64 a, .int .i64 b], [] => ⟨-9223372036854775808 < a ∧ a < 9223372036854775808 ∧ -9223372036854775808 < b ∧ b < 9223372036854775808, .int .i64 (Int.gcd a b), []⟩
  | _, _ => noSpec
theorem ok_gcd : SpecOk Try.prog 77 s_gcd := by
  intro args S h; unfold s_gcd at h ⊢; (split at h <;> first | exact False.elim h | skip)
  dsimp only at h ⊢
  rename_i a b
  refine funW tabOk (E := []) trivial [] (k := 0) (fn := Try.f77) rfl rfl rfl rfl rfl rfl ?_
  (repeat' ((try (conv => whnf)); first | (with_reducible first | refine And.intro ?_ ?_ | refine WX.of ?_) | exact zc | ((with_reducible refine VC.mk ?_); exact zw) | (with_reducible first | refine splitT ?_ | refine splitF ?_) | ((with_reducible refine splitM.mk (fun hsm => ?_) (fun hsm => ?_)) <;> (try exact zx)) | ((with_reducible refine splitB.mk (fun h => ?_) (fun h => ?_)) <;> (try simp only [zs, ne_eq] at h) <;> (try simp (disch := omega) only [w64] at h) <;> (try exact zx)) | (with_reducible intro hz; (try exact absurd hz (Nat.succ_ne_zero _)))))
  refine loopW tabOk (E := []) trivial [] (σ := Int × Int) (fun s => [(0, .int .i64 s.1), (1, .int .i64 s.2)]) (fun _ => []) (fun s => s.2.natAbs) (fun s => Int.gcd s.1 s.2 = Int.gcd a b ∧ -9223372036854775808 < s.1 ∧ s.1 < 9223372036854775808 ∧ -9223372036854775808 < s.2 ∧ s.2 < 9223372036854775808) (a, b) ⟨rfl, h⟩ ?_ ?_
  · (repeat' ((try (conv => whnf)); first | (with_reducible first | refine And.intro ?_ ?_ | refine WX.of ?_) | exact zc | ((with_reducible refine VC.mk ?_); exact zw) | (with_reducible first | refine splitT ?_ | refine splitF ?_) | ((with_reducible refine splitM.mk (fun hsm => ?_) (fun hsm => ?_)) <;> (try exact zx)) | ((with_reducible refine splitB.mk (fun h => ?_) (fun h => ?_)) <;> (try simp only [zs, ne_eq] at h) <;> (try simp (disch := omega) only [w64] at h) <;> (try exact zx)) | (with_reducible intro hz; (try exact absurd hz (Nat.succ_ne_zero _)))))
  · rintro ⟨x, y⟩ ⟨hg, hr⟩
    dsimp only at hg hr
    (repeat' ((try (conv => whnf)); first | (with_reducible first | refine And.intro ?_ ?_ | refine WX.of ?_) | exact zc | ((with_reducible refine VC.mk ?_); exact zw) | (with_reducible first | refine splitT ?_ | refine splitF ?_) | ((with_reducible refine splitM.mk (fun hsm => ?_) (fun hsm => ?_)) <;> (try exact zx)) | ((with_reducible refine splitB.mk (fun h => ?_) (fun h => ?_)) <;> (try simp only [zs, ne_eq] at h) <;> (try simp (disch := omega) only [w64] at h) <;> (try exact zx)) | (with_reducible intro hz; (try exact absurd hz (Nat.succ_ne_zero _)))))
    · have := tmod_lt (a := x) h
      refine ⟨(y, x.tmod y), this, ⟨by rw [← hg]; exact gcd_tmod, ?_⟩, ?_⟩
      · dsimp only; omega
      · (repeat' ((try (conv => whnf)); first | (with_reducible first | refine And.intro ?_ ?_ | refine WX.of ?_) | exact zc | ((with_reducible refine VC.mk ?_); exact zw) | (with_reducible first | refine splitT ?_ | refine splitF ?_) | ((with_reducible refine splitM.mk (fun hsm => ?_) (fun hsm => ?_)) <;> (try exact zx)) | ((with_reducible refine splitB.mk (fun h => ?_) (fun h => ?_)) <;> (try simp only [zs, ne_eq] at h) <;> (try simp (disch := omega) only [w64] at h) <;> (try exact zx)) | (with_reducible intro hz; (try exact absurd hz (Nat.succ_ne_zero _)))))
    · subst h
      simp at hg
      dsimp only
      rw [w64 (by omega)]
      refine ⟨?_⟩
      rw [← hg]
      congr 1
      split <;> omega
def s_abs : Spec := fun args S => match args, S with
  | [.int .i64 n], [] => ⟨-9223372036854775808 < n ∧ n < 9223372036854775808, .int .i64 (n.natAbs : Int), []⟩
  | _, _ => noSpec
theorem ok_l01Abs : SpecOk Try.prog 43 s_abs := by
  intro args S h; unfold s_abs at h ⊢; (split at h <;> first | exact False.elim h | skip)
  dsimp only at h ⊢
  refine funW tabOk (E := []) trivial [] (k := 0) (fn := Try.f43) rfl rfl rfl rfl rfl rfl ?_
  (repeat' ((try (conv => whnf)); first | (with_reducible first | refine And.intro ?_ ?_ | refine WX.of ?_) | exact zc | ((with_reducible refine VC.mk ?_); exact zw) | (with_reducible first | refine splitT ?_ | refine splitF ?_) | ((with_reducible refine splitM.mk (fun hsm => ?_) (fun hsm => ?_)) <;> (try exact zx)) | ((with_reducible refine splitB.mk (fun h => ?_) (fun h => ?_)) <;> (try simp only [zs, ne_eq] at h) <;> (try simp (disch := omega) only [w64] at h) <;> (try exact zx)) | (with_reducible intro hz; (try exact absurd hz (Nat.succ_ne_zero _)))))
def s_gcdN : Spec := fun args S => match args, S with
  | [.int .i64 a, .int .i64 b], [] => ⟨0 ≤ a ∧ a < 9223372036854775808 ∧ 0 ≤ b ∧ b < 9223372036854775808, .int .i64 (Int.gcd a b), []⟩
  | _, _ => noSpec
theorem ok_l01Gcd : SpecOk Try.prog 42 s_gcdN := by
  intro args S h; unfold s_gcdN at h ⊢; (split at h <;> first | exact False.elim h | skip)
  dsimp only at h ⊢
  rename_i a b
  refine funW tabOk (E := []) trivial [] (k := 0) (fn := Try.f42) rfl rfl rfl rfl rfl rfl ?_
  (repeat' ((try (conv => whnf)); first | (with_reducible first | refine And.intro ?_ ?_ | refine WX.of ?_) | exact zc | ((with_reducible refine VC.mk ?_); exact zw) | (with_reducible first | refine splitT ?_ | refine splitF ?_) | ((with_reducible refine splitM.mk (fun hsm => ?_) (fun hsm => ?_)) <;> (try exact zx)) | ((with_reducible refine splitB.mk (fun h => ?_) (fun h => ?_)) <;> (try simp only [zs, ne_eq] at h) <;> (try simp (disch := omega) only [w64] at h) <;> (try exact zx)) | (with_reducible intro hz; (try exact absurd hz (Nat.succ_ne_zero _)))))
  refine loopW tabOk (E := []) trivial [] (σ := Int × Int) (fun s => [(0, .int .i64 s.1), (1, .int .i64 s.2)]) (fun _ => []) (fun s => s.2.natAbs) (fun s => Int.gcd s.1 s.2 = Int.gcd a b ∧ 0 ≤ s.1 ∧ s.1 < 9223372036854775808 ∧ 0 ≤ s.2 ∧ s.2 < 9223372036854775808) (a, b) ⟨rfl, h⟩ ?_ ?_
  · (repeat' ((try (conv => whnf)); first | (with_reducible first | refine And.intro ?_ ?_ | refine WX.of ?_) | exact zc | ((with_reducible refine VC.mk ?_); exact zw) | (with_reducible first | refine splitT ?_ | refine splitF ?_) | ((with_reducible refine splitM.mk (fun hsm => ?_) (fun hsm => ?_)) <;> (try exact zx)) | ((with_reducible refine splitB.mk (fun h => ?_) (fun h => ?_)) <;> (try simp only [zs, ne_eq] at h) <;> (try simp (disch := omega) only [w64] at h) <;> (try exact zx)) | (with_reducible intro hz; (try exact absurd hz (Nat.succ_ne_zero _)))))
  · rintro ⟨x, y⟩ ⟨hg, hr⟩
    dsimp only at hg hr
    (repeat' ((try (conv => whnf)); first | (with_reducible first | refine And.intro ?_ ?_ | refine WX.of ?_) | exact zc | ((with_reducible refine VC.mk ?_); exact zw) | (with_reducible first | refine splitT ?_ | refine splitF ?_) | ((with_reducible refine splitM.mk (fun hsm => ?_) (fun hsm => ?_)) <;> (try exact zx)) | ((with_reducible refine splitB.mk (fun h => ?_) (fun h => ?_)) <;> (try simp only [zs, ne_eq] at h) <;> (try simp (disch := omega) only [w64] at h) <;> (try exact zx)) | (with_reducible intro hz; (try exact absurd hz (Nat.succ_ne_zero _)))))
    · have := tmod_lt (a := x) h
      have h2 := Int.tmod_nonneg y hr.1
      refine ⟨(y, x.tmod y), this, ⟨by rw [← hg]; exact gcd_tmod, ?_⟩, ?_⟩
      · dsimp only; omega
      · (repeat' ((try (conv => whnf)); first | (with_reducible first | refine And.intro ?_ ?_ | refine WX.of ?_) | exact zc | ((with_reducible refine VC.mk ?_); exact zw) | (with_reducible first | refine splitT ?_ | refine splitF ?_) | ((with_reducible refine splitM.mk (fun hsm => ?_) (fun hsm => ?_)) <;> (try exact zx)) | ((with_reducible refine splitB.mk (fun h => ?_) (fun h => ?_)) <;> (try simp only [zs, ne_eq] at h) <;> (try simp (disch := omega) only [w64] at h) <;> (try exact zx)) | (with_reducible intro hz; (try exact absurd hz (Nat.succ_ne_zero _)))))
    · subst h
      simp at hg
      refine ⟨?_⟩
      dsimp only
      rw [← hg]
      congr 1
      omega
/-- A valid fraction. -/
def fOk (p q : Int) : Bool := decide (1 ≤ q ∧ q ≤ 1000000000 ∧ -1000000000 ≤ p ∧ p ≤ 1000000000 ∧ Int.gcd p q = 1)
theorem fOk_iff {p q : Int} : fOk p q = true ↔ 1 ≤ q ∧ q ≤ 1000000000 ∧ -1000000000 ≤ p ∧ p ≤ 1000000000 ∧ Int.gcd p q = 1 := by simp [fOk]
def s_fOk : Spec := fun args S => match args, S with
  | [.agg [.int .i64 p, .int .i64 q]], [] => ⟨True, .bool (fOk p q), []⟩
  | _, _ => noSpec
theorem gcd_abs (p q : Int) : Int.gcd (p.natAbs : Int) q = Int.gcd p q := by simp [Int.gcd]
theorem ok_ValidFrac : SpecOk Try.prog 78 s_fOk := by
  intro args S h; unfold s_fOk at h ⊢; (split at h <;> first | exact False.elim h | skip)
  dsimp only at h ⊢
  refine funW tabOk (E := [(25, s_within), (77, s_gcd)]) ⟨ok_within, ok_gcd, trivial⟩ [] (k := 0) (fn := Try.f78) rfl rfl rfl rfl rfl rfl ?_
  (repeat' ((try (conv => whnf)); first | (with_reducible first | refine And.intro ?_ ?_ | refine WX.of ?_) | exact zc | ((with_reducible refine VC.mk ?_); exact zw) | (with_reducible first | refine splitT ?_ | refine splitF ?_) | ((with_reducible refine splitM.mk (fun hsm => ?_) (fun hsm => ?_)) <;> (try exact zx)) | ((with_reducible refine splitB.mk (fun h => ?_) (fun h => ?_)) <;> (try simp only [zs, ne_eq] at h) <;> (try simp (disch := omega) only [w64] at h) <;> (try exact zx)) | (with_reducible intro hz; (try exact absurd hz (Nat.succ_ne_zero _)))))
  all_goals (refine ⟨congrArg SV.bool ?_⟩; (try dsimp only); (try simp (disch := omega) only [w64]); rw [Bool.eq_iff_iff]; try (simp [fOk]); try omega)
theorem ok_l01Ok : SpecOk Try.prog 44 s_fOk := by
  intro args S h; unfold s_fOk at h ⊢; (split at h <;> first | exact False.elim h | skip)
  dsimp only at h ⊢
  refine funW tabOk (E := [(21, s_within), (42, s_gcdN), (43, s_abs)]) ⟨ok_l00In, ok_l01Gcd, ok_l01Abs, trivial⟩ [(1, [(13, 2)])] (k := 0) (fn := Try.f44) rfl rfl rfl rfl rfl rfl ?_
  (repeat' ((try (conv => whnf)); first | (with_reducible first | refine And.intro ?_ ?_ | refine WX.of ?_) | exact zc | ((with_reducible refine VC.mk ?_); exact zw) | (with_reducible first | refine splitT ?_ | refine splitF ?_) | ((with_reducible refine splitM.mk (fun hsm => ?_) (fun hsm => ?_)) <;> (try exact zx)) | ((with_reducible refine splitB.mk (fun h => ?_) (fun h => ?_)) <;> (try simp only [zs, ne_eq] at h) <;> (try simp (disch := omega) only [w64] at h) <;> (try exact zx)) | (with_reducible intro hz; (try exact absurd hz (Nat.succ_ne_zero _)))))
  all_goals (refine ⟨congrArg SV.bool ?_⟩; (try dsimp only); (try simp (disch := omega) only [w64]); rw [Bool.eq_iff_iff]; try (simp [fOk, gcd_abs]); try omega)
/-- The reduced fraction. -/
def redG (p q : Int) : Int := (Int.gcd p q : Int)
def redP (p q : Int) : Int := if q < 0 then -(p / redG p q) else p / redG p q
def redQ (p q : Int) : Int := if q < 0 then -(q / redG p q) else q / redG p q
def redOk (p q : Int) : Bool := fOk (redP p q) (redQ p q)
theorem redG_pos {p q : Int} (h : q ≠ 0) : 0 < redG p q := by
  unfold redG
  have : 0 < Int.gcd p q := Int.gcd_pos_of_ne_zero_right _ h
  omega
theorem redG_le {p q M : Int} (h : q ≠ 0) (hq : -M ≤ q ∧ q ≤ M) : redG p q ≤ M := by
  unfold redG
  have := Nat.le_of_dvd (by omega) (Nat.gcd_dvd_right p.natAbs q.natAbs)
  have e : Int.gcd p q = Nat.gcd p.natAbs q.natAbs := rfl
  omega
theorem ediv_small {p g M : Int} (hg : 0 < g) (h : -M ≤ p ∧ p ≤ M) : -M ≤ p / g ∧ p / g ≤ M := by
  have h0 : 0 ≤ M := by omega
  refine ⟨?_, ?_⟩
  · rw [Int.le_ediv_iff_mul_le hg]
    have : M ≤ M * g := by have := Int.mul_le_mul_of_nonneg_left (show 1 ≤ g by omega) h0; omega
    rw [Int.neg_mul]; omega
  · have := Int.ediv_le_ediv hg h.2
    have := Int.ediv_le_self g h0
    omega
theorem red_p {p q : Int} : p.tdiv (redG p q) = p / redG p q := Int.tdiv_eq_ediv_of_dvd (Int.gcd_dvd_left ..)
theorem red_q {p q : Int} : q.tdiv (redG p q) = q / redG p q := Int.tdiv_eq_ediv_of_dvd (Int.gcd_dvd_right ..)
theorem red_np {p q : Int} : (-p).tdiv (redG p q) = -(p / redG p q) := by rw [Int.neg_tdiv, red_p]
theorem red_nq {p q : Int} : (-q).tdiv (redG p q) = -(q / redG p q) := by rw [Int.neg_tdiv, red_q]
theorem red_bound {p q : Int} (h : q ≠ 0) (hp : -9223372036854775807 ≤ p ∧ p ≤ 9223372036854775807) (hq : -9223372036854775807 ≤ q ∧ q ≤ 9223372036854775807) :
    (-9223372036854775807 ≤ p / redG p q ∧ p / redG p q ≤ 9223372036854775807) ∧ (-9223372036854775807 ≤ q / redG p q ∧ q / redG p q ≤ 9223372036854775807) :=
  ⟨ediv_small (redG_pos h) hp, ediv_small (redG_pos h) hq⟩
/-- The sign of the reduced denominator. -/
theorem red_sign {p q : Int} (h : q ≠ 0) : (q / redG p q < 0 ↔ q < 0) := by
  have hg := redG_pos (p := p) h
  constructor
  · intro h1
    have := Int.ediv_mul_cancel (a := q) (b := redG p q) (Int.gcd_dvd_right ..)
    have h2 : q / redG p q * redG p q < 0 := Int.mul_neg_of_neg_of_pos h1 hg
    omega
  · intro h1
    have := Int.ediv_mul_cancel (a := q) (b := redG p q) (Int.gcd_dvd_right ..)
    apply Classical.byContradiction; intro h2
    have h3 : 0 ≤ q / redG p q * redG p q := Int.mul_nonneg (by omega) (by omega)
    omega
def s_red : Spec := fun args S => match args, S with
  | [.int .i64 p, .int .i64 q], [] => ⟨q ≠ 0 ∧ (-9223372036854775807 ≤ p ∧ p ≤ 9223372036854775807) ∧ (-9223372036854775807 ≤ q ∧ q ≤ 9223372036854775807), .tup [.agg [.int .i64 (if redOk p q = true then redP p q else 0), .int .i64 (if redOk p q = true then redQ p q else 0)], .int .i64 (if redOk p q = true then 0 else 3)], []⟩
  | _, _ => noSpec
theorem ok_l01Reduced : SpecOk Try.prog 23 s_red := by
  intro args S h; unfold s_red at h ⊢; (split at h <;> first | exact False.elim h | skip)
  dsimp only at h ⊢
  rename_i p q
  obtain ⟨h0, hp, hq⟩ := h
  have hg := redG_pos (p := p) h0
  have hgl := redG_le (p := p) h0 hq
  have hb := red_bound h0 hp hq
  have hs := red_sign (p := p) h0
  have e : (Int.gcd (p.natAbs : Int) (q.natAbs : Int) : Int) = redG p q := by simp [Int.gcd, redG]
  refine funW tabOk (E := [(44, s_fOk), (42, s_gcdN), (43, s_abs)]) ⟨ok_l01Ok, ok_l01Gcd, ok_l01Abs, trivial⟩ [] (k := 0) (fn := Try.f23) rfl rfl rfl rfl rfl rfl ?_
  (repeat' ((try (conv => whnf)); first | (with_reducible first | refine And.intro ?_ ?_ | refine WX.of ?_) | exact zc | ((with_reducible refine VC.mk ?_); exact zw) | (with_reducible first | refine splitT ?_ | refine splitF ?_) | ((with_reducible refine splitM.mk (fun hsm => ?_) (fun hsm => ?_)) <;> (try exact zx)) | ((with_reducible refine splitB.mk (fun h => ?_) (fun h => ?_)) <;> (try simp only [zs, ne_eq] at h) <;> (try simp (disch := omega) only [w64] at h) <;> (try exact zx)) | (with_reducible intro hz; (try exact absurd hz (Nat.succ_ne_zero _)))))
  all_goals
    rename_i hq'
    simp (disch := omega) only [e, red_p, red_q, w64, Int.zero_sub] at h hq' ⊢
    first | rw [hs] at hq' | (rw [← Int.not_lt, hs] at hq')
    refine ⟨?_⟩
    simp [redOk, redP, redQ, h, hq']
/-- What fracOf answers. -/
def s_fracOf : Spec := fun args S => match args, S with
  | [.int .i64 p, .int .i64 q], [] => ⟨q ≠ 0 ∧ (-9223372036854775807 ≤ p ∧ p ≤ 9223372036854775807) ∧ (-9223372036854775807 ≤ q ∧ q ≤ 9223372036854775807), .tup [.agg [.int .i64 (if redOk p q = true then redP p q else 0), .int .i64 (if redOk p q = true then redQ p q else 0)], .bool (redOk p q)], []⟩
  | _, _ => noSpec
theorem redG_neg (p q : Int) : (Int.gcd (-p) (-q) : Int) = redG p q := by simp [redG]
theorem ok_fracOf : SpecOk Try.prog 61 s_fracOf := by
  intro args S h; unfold s_fracOf at h ⊢; (split at h <;> first | exact False.elim h | skip)
  dsimp only at h ⊢
  rename_i p q
  obtain ⟨h0, hp, hq⟩ := h
  have hg := redG_pos (p := p) h0
  have hgl := redG_le (p := p) h0 hq
  have hb := red_bound h0 hp hq
  have hs := red_sign (p := p) h0
  have e : (Int.gcd p q : Int) = redG p q := rfl
  have e2 := redG_neg p q
  refine funW tabOk (E := [(78, s_fOk), (77, s_gcd)]) ⟨ok_ValidFrac, ok_gcd, trivial⟩ [] (k := 0) (fn := Try.f61) rfl rfl rfl rfl rfl rfl ?_
  (repeat' ((try (conv => whnf)); first | (with_reducible first | refine And.intro ?_ ?_ | refine WX.of ?_) | exact zc | ((with_reducible refine VC.mk ?_); exact zw) | ((with_reducible refine VC.mk ?_); simp (disch := omega) only [w64, Int.zero_sub, e, e2]; omega) | (with_reducible first | refine splitT ?_ | refine splitF ?_) | ((with_reducible refine splitM.mk (fun hsm => ?_) (fun hsm => ?_)) <;> (try exact zx)) | ((with_reducible refine splitB.mk (fun h => ?_) (fun h => ?_)) <;> (try simp only [zs, ne_eq] at h) <;> (try simp (disch := omega) only [w64] at h) <;> (try exact zx)) | (with_reducible intro hz; (try exact absurd hz (Nat.succ_ne_zero _)))))
  all_goals
    rename_i hq'
    simp (disch := omega) only [e, e2, red_p, red_q, red_np, red_nq, w64, Int.zero_sub] at h ⊢
    refine ⟨?_⟩
    first | (simp [redOk, redP, redQ, h, hq']; done) | simp [redOk, redP, redQ, h, show ¬ q < 0 by omega]
/-- What told answers: 0 where it is no valid fraction. -/
def tolP (p q : Int) : Int := if redOk p q = true then redP p q else 0
def tolQ (p q : Int) : Int := if redOk p q = true then redQ p q else 1
def s_told : Spec := fun args S => match args, S with
  | [.ptr b 0 0, .int .i64 p, .int .i64 q], [.arr .bool [bad] 0 true] => ⟨b = 0 ∧ q ≠ 0 ∧ (-9223372036854775807 ≤ p ∧ p ≤ 9223372036854775807) ∧ (-9223372036854775807 ≤ q ∧ q ≤ 9223372036854775807), .agg [.int .i64 (tolP p q), .int .i64 (tolQ p q)], [.arr .bool [bad || !redOk p q] 0 true]⟩
  | _, _ => noSpec
def s_zero : Spec := fun args S => match args, S with
  | [], [] => ⟨True, .agg [.int .i64 0, .int .i64 1], []⟩
  | _, _ => noSpec
theorem ok_zero : SpecOk Try.prog 62 s_zero := by
  intro args S h; unfold s_zero at h ⊢; (split at h <;> first | exact False.elim h | skip)
  dsimp only at h ⊢
  refine funW tabOk (E := []) trivial [] (k := 0) (fn := Try.f62) rfl rfl rfl rfl rfl rfl ?_
  (repeat' ((try (conv => whnf)); first | (with_reducible first | refine And.intro ?_ ?_ | refine WX.of ?_) | exact zc | ((with_reducible refine VC.mk ?_); exact zw) | (with_reducible first | refine splitT ?_ | refine splitF ?_) | ((with_reducible refine splitM.mk (fun hsm => ?_) (fun hsm => ?_)) <;> (try exact zx)) | ((with_reducible refine splitB.mk (fun h => ?_) (fun h => ?_)) <;> (try simp only [zs, ne_eq] at h) <;> (try simp (disch := omega) only [w64] at h) <;> (try exact zx)) | (with_reducible intro hz; (try exact absurd hz (Nat.succ_ne_zero _)))))
theorem ok_told : SpecOk Try.prog 51 s_told := by
  intro args S h; unfold s_told at h ⊢; (split at h <;> first | exact False.elim h | skip)
  dsimp only at h ⊢
  rename_i b p q bad
  obtain ⟨rfl, h0, hp, hq⟩ := h
  refine funW tabOk (E := [(61, s_fracOf), (62, s_zero)]) ⟨ok_fracOf, ok_zero, trivial⟩ [] (k := 1) (fn := Try.f51) rfl rfl rfl rfl rfl rfl ?_
  (repeat' ((try (conv => whnf)); first | (with_reducible first | refine And.intro ?_ ?_ | refine WX.of ?_) | exact zc | ((with_reducible refine VC.mk ?_); exact zw) | (with_reducible first | refine splitT ?_ | refine splitF ?_) | ((with_reducible refine splitM.mk (fun hsm => ?_) (fun hsm => ?_)) <;> (try exact zx)) | ((with_reducible refine splitB.mk (fun h => ?_) (fun h => ?_)) <;> (try simp only [zs, ne_eq] at h) <;> (try simp (disch := omega) only [w64] at h) <;> (try exact zx)) | (with_reducible intro hz; (try exact absurd hz (Nat.succ_ne_zero _)))))
  all_goals (refine ⟨?_⟩; simp [tolP, tolQ, h])
def s_one : Spec := fun args S => match args, S with
  | [.ptr b 0 0, .agg [.int .i64 p, .int .i64 q]], [.arr .bool [bad] 0 true] => ⟨b = 0, .tup [.agg [.int .i64 (if bad = true then 0 else p), .int .i64 (if bad = true then 0 else q)], .int .i64 (if bad = true then 3 else 0)], [.arr .bool [bad] 0 true]⟩
  | _, _ => noSpec
theorem ok_one : SpecOk Try.prog 30 s_one := by
  intro args S h; unfold s_one at h ⊢; (split at h <;> first | exact False.elim h | skip)
  dsimp only at h ⊢
  rename_i b p q bad
  subst h
  refine funW tabOk (E := []) trivial [] (k := 1) (fn := Try.f30) rfl rfl rfl rfl rfl rfl ?_
  (repeat' ((try (conv => whnf)); first | (with_reducible first | refine And.intro ?_ ?_ | refine WX.of ?_) | exact zc | ((with_reducible refine VC.mk ?_); exact zw) | (with_reducible first | refine splitT ?_ | refine splitF ?_) | ((with_reducible refine splitM.mk (fun hsm => ?_) (fun hsm => ?_)) <;> (try exact zx)) | ((with_reducible refine splitB.mk (fun h => ?_) (fun h => ?_)) <;> (try simp only [zs, ne_eq] at h) <;> (try simp (disch := omega) only [w64] at h) <;> (try exact zx)) | (with_reducible intro hz; (try exact absurd hz (Nat.succ_ne_zero _)))))
  all_goals (refine ⟨?_⟩; simp [h])
theorem mulB {a b : Int} (ha : -1000000000 ≤ a ∧ a ≤ 1000000000) (hb : -1000000000 ≤ b ∧ b ≤ 1000000000) : -1000000000000000000 ≤ a * b ∧ a * b ≤ 1000000000000000000 := by
  have h1 : a.natAbs ≤ 1000000000 := by omega
  have h2 : b.natAbs ≤ 1000000000 := by omega
  have h3 := Nat.mul_le_mul h1 h2
  rw [← Int.natAbs_mul] at h3
  omega
theorem mulPos {a b : Int} (ha : 1 ≤ a) (hb : 1 ≤ b) : 1 ≤ a * b := by
  have := Int.mul_le_mul ha hb (by omega) (by omega)
  omega
/-- The parts of a fraction within bounds. -/
def smF (p q : Int) : Prop := (-1000000000 ≤ p ∧ p ≤ 1000000000) ∧ 1 ≤ q ∧ q ≤ 1000000000
theorem smF_ok {p q : Int} (h : fOk p q = true) : smF p q := by
  rw [fOk_iff] at h; unfold smF; omega
theorem smF_1 {n : Int} (h : -1000000000 ≤ n ∧ n ≤ 1000000000) : smF n 1 := by unfold smF; omega
def s_add : Spec := fun args S => match args, S with
  | [.ptr b 0 0, .agg [.int .i64 p, .int .i64 q], .agg [.int .i64 p', .int .i64 q']], [.arr .bool [bad] 0 true] => ⟨b = 0 ∧ smF p q ∧ smF p' q', .agg [.int .i64 (tolP (p * q' + p' * q) (q * q')), .int .i64 (tolQ (p * q' + p' * q) (q * q'))], [.arr .bool [bad || !redOk (p * q' + p' * q) (q * q')] 0 true]⟩
  | _, _ => noSpec
def s_sub : Spec := fun args S => match args, S with
  | [.ptr b 0 0, .agg [.int .i64 p, .int .i64 q], .agg [.int .i64 p', .int .i64 q']], [.arr .bool [bad] 0 true] => ⟨b = 0 ∧ smF p q ∧ smF p' q', .agg [.int .i64 (tolP (p * q' - p' * q) (q * q')), .int .i64 (tolQ (p * q' - p' * q) (q * q'))], [.arr .bool [bad || !redOk (p * q' - p' * q) (q * q')] 0 true]⟩
  | _, _ => noSpec
def s_mul : Spec := fun args S => match args, S with
  | [.ptr b 0 0, .agg [.int .i64 p, .int .i64 q], .agg [.int .i64 p', .int .i64 q']], [.arr .bool [bad] 0 true] => ⟨b = 0 ∧ smF p q ∧ smF p' q', .agg [.int .i64 (tolP (p * p') (q * q')), .int .i64 (tolQ (p * p') (q * q'))], [.arr .bool [bad || !redOk (p * p') (q * q')] 0 true]⟩
  | _, _ => noSpec
/-- A quotient; by 0 nothing valid. -/
def divOk (p q p' q' : Int) : Bool := !decide (p' = 0) && redOk (p * q') (q * p')
def divP (p q p' q' : Int) : Int := if p' = 0 then 0 else tolP (p * q') (q * p')
def divQ (p q p' q' : Int) : Int := if p' = 0 then 1 else tolQ (p * q') (q * p')
def s_div : Spec := fun args S => match args, S with
  | [.ptr b 0 0, .agg [.int .i64 p, .int .i64 q], .agg [.int .i64 p', .int .i64 q']], [.arr .bool [bad] 0 true] => ⟨b = 0 ∧ smF p q ∧ smF p' q', .agg [.int .i64 (divP p q p' q'), .int .i64 (divQ p q p' q')], [.arr .bool [bad || !divOk p q p' q'] 0 true]⟩
  | _, _ => noSpec
theorem smF_mul {p q p' q' : Int} (h : smF p q) (h' : smF p' q') :
    (-1000000000000000000 ≤ p * q' ∧ p * q' ≤ 1000000000000000000) ∧ (-1000000000000000000 ≤ p' * q ∧ p' * q ≤ 1000000000000000000) ∧ (-1000000000000000000 ≤ q * p' ∧ q * p' ≤ 1000000000000000000) ∧ (-1000000000000000000 ≤ p * p' ∧ p * p' ≤ 1000000000000000000) ∧ (1 ≤ q * q' ∧ q * q' ≤ 1000000000000000000) := by
  unfold smF at h h'
  exact ⟨mulB h.1 ⟨by omega, by omega⟩, mulB h'.1 ⟨by omega, by omega⟩, mulB ⟨by omega, by omega⟩ h'.1, mulB h.1 h'.1, mulPos h.2.1 h'.2.1, (mulB ⟨by omega, by omega⟩ ⟨by omega, by omega⟩).2⟩
theorem ok_add : SpecOk Try.prog 54 s_add := by
  intro args S h; unfold s_add at h ⊢; (split at h <;> first | exact False.elim h | skip)
  dsimp only at h ⊢
  rename_i b p q p' q' bad
  obtain ⟨rfl, h1, h2⟩ := h
  have hm := smF_mul h1 h2
  refine funW tabOk (E := [(51, s_told)]) ⟨ok_told, trivial⟩ [] (k := 1) (fn := Try.f54) rfl rfl rfl rfl rfl rfl ?_
  (repeat' ((try (conv => whnf)); first | (with_reducible first | refine And.intro ?_ ?_ | refine WX.of ?_) | exact zc | ((with_reducible refine VC.mk ?_); exact zw) | ((with_reducible refine VC.mk ?_); simp (disch := omega) only [w64]; first  |  done  |  omega  |  (refine ⟨?_, ?_, ?_⟩ <;> first  |  trivial  |  omega)) | (with_reducible first | refine splitT ?_ | refine splitF ?_) | ((with_reducible refine splitM.mk (fun hsm => ?_) (fun hsm => ?_)) <;> (try exact zx)) | ((with_reducible refine splitB.mk (fun h => ?_) (fun h => ?_)) <;> (try simp only [zs, ne_eq] at h) <;> (try simp (disch := omega) only [w64] at h) <;> (try exact zx)) | (with_reducible intro hz; (try exact absurd hz (Nat.succ_ne_zero _)))))
theorem ok_sub : SpecOk Try.prog 56 s_sub := by
  intro args S h; unfold s_sub at h ⊢; (split at h <;> first | exact False.elim h | skip)
  dsimp only at h ⊢
  rename_i b p q p' q' bad
  obtain ⟨rfl, h1, h2⟩ := h
  have hm := smF_mul h1 h2
  refine funW tabOk (E := [(51, s_told)]) ⟨ok_told, trivial⟩ [] (k := 1) (fn := Try.f56) rfl rfl rfl rfl rfl rfl ?_
  (repeat' ((try (conv => whnf)); first | (with_reducible first | refine And.intro ?_ ?_ | refine WX.of ?_) | exact zc | ((with_reducible refine VC.mk ?_); exact zw) | ((with_reducible refine VC.mk ?_); simp (disch := omega) only [w64]; first  |  done  |  omega  |  (refine ⟨?_, ?_, ?_⟩ <;> first  |  trivial  |  omega)) | (with_reducible first | refine splitT ?_ | refine splitF ?_) | ((with_reducible refine splitM.mk (fun hsm => ?_) (fun hsm => ?_)) <;> (try exact zx)) | ((with_reducible refine splitB.mk (fun h => ?_) (fun h => ?_)) <;> (try simp only [zs, ne_eq] at h) <;> (try simp (disch := omega) only [w64] at h) <;> (try exact zx)) | (with_reducible intro hz; (try exact absurd hz (Nat.succ_ne_zero _)))))
theorem ok_mul : SpecOk Try.prog 37 s_mul := by
  intro args S h; unfold s_mul at h ⊢; (split at h <;> first | exact False.elim h | skip)
  dsimp only at h ⊢
  rename_i b p q p' q' bad
  obtain ⟨rfl, h1, h2⟩ := h
  have hm := smF_mul h1 h2
  refine funW tabOk (E := [(51, s_told)]) ⟨ok_told, trivial⟩ [] (k := 1) (fn := Try.f37) rfl rfl rfl rfl rfl rfl ?_
  (repeat' ((try (conv => whnf)); first | (with_reducible first | refine And.intro ?_ ?_ | refine WX.of ?_) | exact zc | ((with_reducible refine VC.mk ?_); exact zw) | ((with_reducible refine VC.mk ?_); simp (disch := omega) only [w64]; first  |  done  |  omega  |  (refine ⟨?_, ?_, ?_⟩ <;> first  |  trivial  |  omega)) | (with_reducible first | refine splitT ?_ | refine splitF ?_) | ((with_reducible refine splitM.mk (fun hsm => ?_) (fun hsm => ?_)) <;> (try exact zx)) | ((with_reducible refine splitB.mk (fun h => ?_) (fun h => ?_)) <;> (try simp only [zs, ne_eq] at h) <;> (try simp (disch := omega) only [w64] at h) <;> (try exact zx)) | (with_reducible intro hz; (try exact absurd hz (Nat.succ_ne_zero _)))))
theorem ok_div : SpecOk Try.prog 53 s_div := by
  intro args S h; unfold s_div at h ⊢; (split at h <;> first | exact False.elim h | skip)
  dsimp only at h ⊢
  rename_i b p q p' q' bad
  obtain ⟨rfl, h1, h2⟩ := h
  have hm := smF_mul h1 h2
  refine funW tabOk (E := [(51, s_told), (62, s_zero)]) ⟨ok_told, ok_zero, trivial⟩ [] (k := 1) (fn := Try.f53) rfl rfl rfl rfl rfl rfl ?_
  (repeat' ((try (conv => whnf)); first | (with_reducible first | refine And.intro ?_ ?_ | refine WX.of ?_) | exact zc | ((with_reducible refine VC.mk ?_); exact zw) | ((with_reducible refine VC.mk ?_); simp (disch := omega) only [w64]; first  |  done  |  omega  |  (refine ⟨?_, ?_, ?_⟩ <;> first  |  trivial  |  omega)) | (with_reducible first | refine splitT ?_ | refine splitF ?_) | ((with_reducible refine splitM.mk (fun hsm => ?_) (fun hsm => ?_)) <;> (try exact zx)) | ((with_reducible refine splitB.mk (fun h => ?_) (fun h => ?_)) <;> (try simp only [zs, ne_eq] at h) <;> (try simp (disch := omega) only [w64] at h) <;> (try exact zx)) | (with_reducible intro hz; (try exact absurd hz (Nat.succ_ne_zero _)))))
  · refine ⟨?_⟩; simp [divP, divQ, h]
  · refine ⟨?_⟩; simp [divOk, h]
  · have h3 : q * p' ≠ 0 := Int.mul_ne_zero (by unfold smF at h1; omega) h
    refine ⟨?_⟩
    simp (disch := omega) only [w64]
    refine ⟨?_, h3, ?_, ?_⟩ <;> first | trivial | omega
  · refine ⟨?_⟩
    simp (disch := omega) only [w64]
    simp [divP, divQ, h]
  · refine ⟨?_⟩
    simp (disch := omega) only [w64]
    simp [divOk, h]
def s_num : Spec := fun args S => match args, S with
  | [.int .i64 n], [] => ⟨True, .agg [.int .i64 n, .int .i64 1], []⟩
  | _, _ => noSpec
theorem ok_num : SpecOk Try.prog 38 s_num := by
  intro args S h; unfold s_num at h ⊢; (split at h <;> first | exact False.elim h | skip)
  dsimp only at h ⊢
  refine funW tabOk (E := []) trivial [] (k := 0) (fn := Try.f38) rfl rfl rfl rfl rfl rfl ?_
  (repeat' ((try (conv => whnf)); first | (with_reducible first | refine And.intro ?_ ?_ | refine WX.of ?_) | exact zc | ((with_reducible refine VC.mk ?_); exact zw) | (with_reducible first | refine splitT ?_ | refine splitF ?_) | ((with_reducible refine splitM.mk (fun hsm => ?_) (fun hsm => ?_)) <;> (try exact zx)) | ((with_reducible refine splitB.mk (fun h => ?_) (fun h => ?_)) <;> (try simp only [zs, ne_eq] at h) <;> (try simp (disch := omega) only [w64] at h) <;> (try exact zx)) | (with_reducible intro hz; (try exact absurd hz (Nat.succ_ne_zero _)))))
def s_toInt64S : Spec := fun args S => match args, S with
  | [.opt c 0 n 0], [.arrO (.int .i64) l 1] => ⟨n ≤ l.length ∧ (c = true → l = []) ∧ n ≤ 1048576, .sl 1 0 n 0, [.arrO (.int .i64) l 1, .arr (.int .i64) (seg l 0 n) 1 true]⟩
  | [.sl 0 s n x], [.arr (.int .i64) l 1 wr] => ⟨s + n ≤ l.length ∧ n ≤ 1048576, .sl 1 0 n 0, [.arr (.int .i64) l 1 wr, .arr (.int .i64) (seg l s n) 1 true]⟩
  | _, _ => noSpec
theorem toInt64S_sl {s n x : Nat} {l : List Int} {wr : Bool} (h : s + n ≤ l.length ∧ n ≤ 1048576) : RunsS Try.prog 8 [.sl 0 s n x] [.arr (.int .i64) l 1 wr] (.sl 1 0 n 0) [.arr (.int .i64) l 1 wr, .arr (.int .i64) (seg l s n) 1 true] := by
  have hL := seg_len h.1
  refine funW tabOk (E := []) trivial [] (k := 1) (fn := Try.f8) rfl rfl rfl rfl rfl rfl ?_
  (repeat' ((try (conv => whnf)); first | (with_reducible first | refine And.intro ?_ ?_ | refine WX.of ?_) | exact zc | ((with_reducible refine VC.mk ?_); exact zw) | (with_reducible first | refine splitT ?_ | refine splitF ?_) | ((with_reducible refine splitM.mk (fun hsm => ?_) (fun hsm => ?_)) <;> (try exact zx)) | ((with_reducible refine splitB.mk (fun h => ?_) (fun h => ?_)) <;> (try simp only [zs, ne_eq] at h) <;> (try simp (disch := omega) only [w64] at h) <;> (try exact zx)) | (with_reducible intro hz; (try exact absurd hz (Nat.succ_ne_zero _)))))
  · refine ⟨?_⟩; simp [t_2]; omega
  · refine loopW tabOk (E := []) trivial [] (σ := Nat) (fun i => [(0, .sl 0 s n x), (3, .sl 1 0 n 0), (4, .int .i64 i)]) (fun i => [.arr (.int .i64) l 1 wr, .arr (.int .i64) ((seg l s n).take i ++ List.replicate (n - i) (0 : Int)) 1 true]) (fun i => n - i) (fun i => i ≤ n) 0 (Nat.zero_le _) ?_ ?_
    · (repeat' ((try (conv => whnf)); first | (with_reducible first | refine And.intro ?_ ?_ | refine WX.of ?_) | exact zc | ((with_reducible refine VC.mk ?_); exact zw) | (with_reducible first | refine splitT ?_ | refine splitF ?_) | ((with_reducible refine splitM.mk (fun hsm => ?_) (fun hsm => ?_)) <;> (try exact zx)) | ((with_reducible refine splitB.mk (fun h => ?_) (fun h => ?_)) <;> (try simp only [zs, ne_eq] at h) <;> (try simp (disch := omega) only [w64] at h) <;> (try exact zx)) | (with_reducible intro hz; (try exact absurd hz (Nat.succ_ne_zero _)))))
      all_goals exact ⟨by simp⟩
    · intro i hi
      by_cases hlt : i < n
      · obtain ⟨a, ha⟩ := get_some (l := seg l s n) (i := i) (by omega)
        (repeat' ((try (conv => whnf)); first | (with_reducible first | refine And.intro ?_ ?_ | refine WX.of ?_) | exact zc | ((with_reducible refine VC.mk ?_); exact zw) | refine atL_i ha ?_ | refine atL_0 (fill_at hL hlt) ?_ | (with_reducible first | refine splitT ?_ | refine splitF ?_) | ((with_reducible refine splitM.mk (fun hsm => ?_) (fun hsm => ?_)) <;> (try exact zx)) | ((with_reducible refine splitB.mk (fun h => ?_) (fun h => ?_)) <;> (try simp only [zs, ne_eq] at h) <;> (try simp (disch := omega) only [w64] at h) <;> (try exact zx)) | (with_reducible intro hz; (try exact absurd hz (Nat.succ_ne_zero _)))))
        refine ⟨i + 1, by omega, hlt, ?_⟩
        (repeat' ((try (conv => whnf)); first | (with_reducible first | refine And.intro ?_ ?_ | refine WX.of ?_) | exact zc | ((with_reducible refine VC.mk ?_); exact zw) | (with_reducible first | refine splitT ?_ | refine splitF ?_) | ((with_reducible refine splitM.mk (fun hsm => ?_) (fun hsm => ?_)) <;> (try exact zx)) | ((with_reducible refine splitB.mk (fun h => ?_) (fun h => ?_)) <;> (try simp only [zs, ne_eq] at h) <;> (try simp (disch := omega) only [w64] at h) <;> (try exact zx)) | (with_reducible intro hz; (try exact absurd hz (Nat.succ_ne_zero _)))))
        exact ⟨by simp [fill_step hL ha]⟩
      · (repeat' ((try (conv => whnf)); first | (with_reducible first | refine And.intro ?_ ?_ | refine WX.of ?_) | exact zc | ((with_reducible refine VC.mk ?_); exact zw) | (with_reducible first | refine splitT ?_ | refine splitF ?_) | ((with_reducible refine splitM.mk (fun hsm => ?_) (fun hsm => ?_)) <;> (try exact zx)) | ((with_reducible refine splitB.mk (fun h => ?_) (fun h => ?_)) <;> (try simp only [zs, ne_eq] at h) <;> (try simp (disch := omega) only [w64] at h) <;> (try exact zx)) | (with_reducible intro hz; (try exact absurd hz (Nat.succ_ne_zero _)))))
        obtain rfl : i = n := by omega
        exact ⟨by rw [fill_end hL]⟩
theorem toInt64S_none {v : SV} (hv : v = .nils ∨ v = .sl 0 0 0 0) : RunsS Try.prog 8 [v] [.gone] (.sl 1 0 0 0) [.gone, .arr (.int .i64) [] 1 true] := by
  rcases hv with rfl | rfl
  all_goals
    refine funW tabOk (E := []) trivial [] (k := 1) (fn := Try.f8) rfl rfl rfl rfl rfl rfl ?_
    (repeat' ((try (conv => whnf)); first | (with_reducible first | refine And.intro ?_ ?_ | refine WX.of ?_) | exact zc | ((with_reducible refine VC.mk ?_); exact zw) | (with_reducible first | refine splitT ?_ | refine splitF ?_) | ((with_reducible refine splitM.mk (fun hsm => ?_) (fun hsm => ?_)) <;> (try exact zx)) | ((with_reducible refine splitB.mk (fun h => ?_) (fun h => ?_)) <;> (try simp only [zs, ne_eq] at h) <;> (try simp (disch := omega) only [w64] at h) <;> (try exact zx)) | (with_reducible intro hz; (try exact absurd hz (Nat.succ_ne_zero _)))))
    refine loop1 tabOk (E := []) trivial [] ?_
    (repeat' ((try (conv => whnf)); first | (with_reducible first | refine And.intro ?_ ?_ | refine WX.of ?_) | exact zc | ((with_reducible refine VC.mk ?_); exact zw) | (with_reducible first | refine splitT ?_ | refine splitF ?_) | ((with_reducible refine splitM.mk (fun hsm => ?_) (fun hsm => ?_)) <;> (try exact zx)) | ((with_reducible refine splitB.mk (fun h => ?_) (fun h => ?_)) <;> (try simp only [zs, ne_eq] at h) <;> (try simp (disch := omega) only [w64] at h) <;> (try exact zx)) | (with_reducible intro hz; (try exact absurd hz (Nat.succ_ne_zero _)))))
theorem ok_toInt64S : SpecOk Try.prog 8 s_toInt64S := by
  intro args S h; unfold s_toInt64S at h ⊢; (split at h <;> first | exact False.elim h | skip)
  dsimp only at h ⊢
  · exact RunsS.opt (pre := []) (post := []) rfl rfl h.1 (fun hn _ hl => by subst hn; subst hl; exact toInt64S_none (.inl rfl)) (fun hn _ hl => by subst hn; subst hl; exact toInt64S_none (.inr rfl)) (toInt64S_sl ⟨by simpa using h.1, h.2.2⟩) h.2.1
  · exact toInt64S_sl h
def s_eqInt64S : Spec := fun args S => match args, S with
  | [.sl 0 s n x, .sl 1 s' n' x'], [.arr (.int .i64) l 1 wr, .arr (.int .i64) l' 1 wr'] => ⟨s + n ≤ l.length ∧ s' + n' ≤ l'.length ∧ n ≤ 4611686018427387904, .bool (decide (seg l s n = seg l' s' n')), [.arr (.int .i64) l 1 wr, .arr (.int .i64) l' 1 wr']⟩
  | [.nils, .sl 0 s' n' x'], [.arr (.int .i64) l' 1 wr'] => ⟨s' + n' ≤ l'.length ∧ n' = 0, .bool true, [.arr (.int .i64) l' 1 wr']⟩
  | _, _ => noSpec
theorem eqInt64S_nil {s x : Nat} {l : List (ET.T (.int .i64))} {wr : Bool} : RunsS Try.prog 11 [.nils, .sl 0 s 0 x] [.arr (.int .i64) l 1 wr] (.bool true) [.arr (.int .i64) l 1 wr] := by
  refine funW tabOk (E := []) trivial [] (k := 1) (fn := Try.f11) rfl rfl rfl rfl rfl rfl ?_
  (repeat' ((try (conv => whnf)); first | (with_reducible first | refine And.intro ?_ ?_ | refine WX.of ?_) | exact zc | ((with_reducible refine VC.mk ?_); exact zw) | (with_reducible first | refine splitT ?_ | refine splitF ?_) | ((with_reducible refine splitM.mk (fun hsm => ?_) (fun hsm => ?_)) <;> (try exact zx)) | ((with_reducible refine splitB.mk (fun h => ?_) (fun h => ?_)) <;> (try simp only [zs, ne_eq] at h) <;> (try simp (disch := omega) only [w64] at h) <;> (try exact zx)) | (with_reducible intro hz; (try exact absurd hz (Nat.succ_ne_zero _)))))
  refine loop1 tabOk (E := []) trivial [] ?_
  (repeat' ((try (conv => whnf)); first | (with_reducible first | refine And.intro ?_ ?_ | refine WX.of ?_) | exact zc | ((with_reducible refine VC.mk ?_); exact zw) | (with_reducible first | refine splitT ?_ | refine splitF ?_) | ((with_reducible refine splitM.mk (fun hsm => ?_) (fun hsm => ?_)) <;> (try exact zx)) | ((with_reducible refine splitB.mk (fun h => ?_) (fun h => ?_)) <;> (try simp only [zs, ne_eq] at h) <;> (try simp (disch := omega) only [w64] at h) <;> (try exact zx)) | (with_reducible intro hz; (try exact absurd hz (Nat.succ_ne_zero _)))))
theorem ok_eqInt64S : SpecOk Try.prog 11 s_eqInt64S := by
  intro args S h; unfold s_eqInt64S at h ⊢; (split at h <;> first | exact False.elim h | skip)
  dsimp only at h ⊢
  rotate_left 1
  · obtain ⟨h1, rfl⟩ := h
    exact eqInt64S_nil
  rename_i s n x s' n' x' l wr l' wr'
  have hL := seg_len h.1
  have hM := seg_len h.2.1
  refine funW tabOk (E := []) trivial [] (k := 2) (fn := Try.f11) rfl rfl rfl rfl rfl rfl ?_
  (repeat' ((try (conv => whnf)); first | (with_reducible first | refine And.intro ?_ ?_ | refine WX.of ?_) | exact zc | ((with_reducible refine VC.mk ?_); exact zw) | (with_reducible first | refine splitT ?_ | refine splitF ?_) | ((with_reducible refine splitM.mk (fun hsm => ?_) (fun hsm => ?_)) <;> (try exact zx)) | ((with_reducible refine splitB.mk (fun h => ?_) (fun h => ?_)) <;> (try simp only [zs, ne_eq] at h) <;> (try simp (disch := omega) only [w64] at h) <;> (try exact zx)) | (with_reducible intro hz; (try exact absurd hz (Nat.succ_ne_zero _)))))
  · refine ⟨?_⟩
    rw [decide_eq_false]; intro e
    rw [e] at hL; omega
  · obtain rfl : n = n' := by omega
    refine loopW tabOk (E := []) trivial [] (σ := Nat) (fun i => [(0, .sl 0 s n x), (1, .sl 1 s' n x'), (5, .int .i64 i)]) (fun i => [.arr (.int .i64) l 1 wr, .arr (.int .i64) l' 1 wr']) (fun i => n - i) (fun i => i ≤ n ∧ (seg l s n).take i = (seg l' s' n).take i) 0 ⟨Nat.zero_le _, by simp⟩ ?_ ?_
    · (repeat' ((try (conv => whnf)); first | (with_reducible first | refine And.intro ?_ ?_ | refine WX.of ?_) | exact zc | ((with_reducible refine VC.mk ?_); exact zw) | (with_reducible first | refine splitT ?_ | refine splitF ?_) | ((with_reducible refine splitM.mk (fun hsm => ?_) (fun hsm => ?_)) <;> (try exact zx)) | ((with_reducible refine splitB.mk (fun h => ?_) (fun h => ?_)) <;> (try simp only [zs, ne_eq] at h) <;> (try simp (disch := omega) only [w64] at h) <;> (try exact zx)) | (with_reducible intro hz; (try exact absurd hz (Nat.succ_ne_zero _)))))
    · intro i ⟨hi, hp⟩
      by_cases hlt : i < n
      · obtain ⟨a, ha⟩ := get_some (l := seg l s n) (i := i) (by omega)
        obtain ⟨b, hb⟩ := get_some (l := seg l' s' n) (i := i) (by omega)
        (repeat' ((try (conv => whnf)); first | (with_reducible first | refine And.intro ?_ ?_ | refine WX.of ?_) | exact zc | ((with_reducible refine VC.mk ?_); exact zw) | refine atL_i ha ?_ | refine atL_i hb ?_ | (with_reducible first | refine splitT ?_ | refine splitF ?_) | ((with_reducible refine splitM.mk (fun hsm => ?_) (fun hsm => ?_)) <;> (try exact zx)) | ((with_reducible refine splitB.mk (fun h => ?_) (fun h => ?_)) <;> (try simp only [zs, ne_eq] at h) <;> (try simp (disch := omega) only [w64] at h) <;> (try exact zx)) | (with_reducible intro hz; (try exact absurd hz (Nat.succ_ne_zero _)))))
        · refine ⟨?_⟩; rw [decide_eq_false]; exact same_not ha hb (h)
        · refine ⟨i + 1, by omega, ⟨hlt, same_step ha hb hp (h)⟩, ?_⟩
          (repeat' ((try (conv => whnf)); first | (with_reducible first | refine And.intro ?_ ?_ | refine WX.of ?_) | exact zc | ((with_reducible refine VC.mk ?_); exact zw) | (with_reducible first | refine splitT ?_ | refine splitF ?_) | ((with_reducible refine splitM.mk (fun hsm => ?_) (fun hsm => ?_)) <;> (try exact zx)) | ((with_reducible refine splitB.mk (fun h => ?_) (fun h => ?_)) <;> (try simp only [zs, ne_eq] at h) <;> (try simp (disch := omega) only [w64] at h) <;> (try exact zx)) | (with_reducible intro hz; (try exact absurd hz (Nat.succ_ne_zero _)))))
      · (repeat' ((try (conv => whnf)); first | (with_reducible first | refine And.intro ?_ ?_ | refine WX.of ?_) | exact zc | ((with_reducible refine VC.mk ?_); exact zw) | (with_reducible first | refine splitT ?_ | refine splitF ?_) | ((with_reducible refine splitM.mk (fun hsm => ?_) (fun hsm => ?_)) <;> (try exact zx)) | ((with_reducible refine splitB.mk (fun h => ?_) (fun h => ?_)) <;> (try simp only [zs, ne_eq] at h) <;> (try simp (disch := omega) only [w64] at h) <;> (try exact zx)) | (with_reducible intro hz; (try exact absurd hz (Nat.succ_ne_zero _)))))
        obtain rfl : i = n := by omega
        refine ⟨?_⟩; rw [decide_eq_true]; exact same_end hL hM hp
end Go.Proofs.Ytiojoddcckhjdaa.Eng
set_option linter.unusedVariables false
set_option linter.unusedSimpArgs false
namespace Go.Proofs.Ytiojoddcckhjdaa.Eng
open Go Go.RowKit
set_option maxRecDepth 100000
/-- A world that a call has left is the world before it, draws and new blocks. -/
theorem grow_of_rel {W w' : World} {ι : Ren} {H : Heap} (h : HRel W ι H w') : ∃ q os', w' = Go.Sort.grow (W.drewN q) os' := by
  refine ⟨w'.drawn - W.drawn, w'.heap.extract W.heap.size w'.heap.size, ?_⟩
  obtain ⟨h1, h2, h3, h4, h5⟩ := h.below
  have h6 := h.glob.2
  have hh : w'.heap = W.heap ++ w'.heap.extract W.heap.size w'.heap.size := by
    apply Array.ext_getElem?
    intro k
    rw [Array.getElem?_append]
    split
    · rename_i hk; exact h5 k hk
    · rename_i hk
      rw [Array.getElem?_extract]
      split
      · congr 1; omega
      · rw [Array.getElem?_eq_none (by omega)]
  obtain ⟨a1, a2, a3, a4, a5⟩ := w'
  obtain ⟨b1, b2, b3, b4, b5⟩ := W
  simp only at h1 h2 h3 h6 hh
  subst h1; subst h2; subst h3
  unfold Go.Sort.grow World.drewN
  simp only [World.mk.injEq, true_and, and_true]
  exact ⟨hh, by omega⟩
theorem HRel.grow {w0 w : World} {ι : Ren} {H : Heap} (h : HRel w0 ι H w) (os : Array Obj) : HRel w0 ι H (Go.Sort.grow w os) :=
  ⟨h.below.trans ⟨rfl, rfl, rfl, by simp, fun k hk => Go.Sort.heap_grow_old w os (by have := h.n0; omega)⟩, h.dom, fun id L b hi hb => by
    obtain ⟨c, e, fr, q1, q⟩ := h.blk id L b hi hb
    exact ⟨c, e, fr, by rw [Go.Sort.heap_grow_old w os (h.lt hi hb)]; exact q1, q⟩, h.sep, h.flat, h.tot, h.glob⟩
/-- What a row's cells are in the machine. -/
theorem HRel.rowCells {w0 w : World} {ι : Ren} {H : Heap} (h : HRel w0 ι H w) {id : Nat} {L : Loc} {b : Blk} (hi : ι id = some L) (hb : H[id]? = some (some b)) (hwr : b.wr = true) (hfl : b.fl = true) :
    L.blk < w.heap.size ∧ ∀ (j : Nat) (v : Value), b.cells[j]? = some v → w.cell? ⟨L.blk, L.off + j, none⟩ = some v ∧ w.frozen? ⟨L.blk, L.off + j, none⟩ = false := by
  obtain ⟨c, e, fr, q1, q2, q3, q4, q5, q6⟩ := h.blk id L b hi hb
  obtain ⟨_, rfl⟩ := q6 hwr
  refine ⟨h.lt hi hb, fun j v hv => ?_⟩
  obtain ⟨v', r1, r2⟩ := q5 j v hv
  have hf := h.flat id b hb hfl v (List.mem_of_getElem? hv)
  have := r2.flat_eq hf
  subst this
  refine ⟨by rw [cell_of_row w L.blk _ c e _ q1]; exact r1, ?_⟩
  simp [World.frozen?, q1]
/-- A row written anew. -/
theorem HRel.put {w0 w : World} {ι : Ren} {H : Heap} (P : Program) (h : HRel w0 ι H w) {id : Nat} {L : Loc} {b : Blk} (hi : ι id = some L) (hb : H[id]? = some (some b)) (hwr : b.wr = true) (hfl : b.fl = true) {cs : List Value} (hl : cs.length = b.cells.length) (hc : cs.all flatV = true) (h1 : cs.all (·.oneCell') = true) (n : Nat) (os : Array Obj) :
    HRel w0 ι (H.set id (some { b with cells := cs })) (Go.Sort.grow ((w.drewN n).setCells L.blk L.off cs) os) ∧ ∀ B, OCs B H (H.set id (some { b with cells := cs })) := by
  have hst : ∀ B, storeA B H id 0 cs = some (H.set id (some { b with cells := cs })) := fun B => by
    unfold storeA
    rw [getB_eq.2 hb]
    simp only
    rw [if_pos ⟨hwr, by omega, h1, fun _ => hc⟩]
    unfold splice
    rw [List.take_zero, List.nil_append, Nat.zero_add, hl, List.drop_length, List.append_nil]
  have hd := h.drewW (w.drawn + n) (Nat.le_add_right _ _)
  have hfv : LRel ι cs cs := LRel.flat fun v hv => List.all_eq_true.1 hc v hv
  refine ⟨?_, fun B => ?_⟩
  · obtain ⟨w', e1, e2, _⟩ := hd.store (P := P) (B := 0) (hst 0) hi hfv
    obtain ⟨_, hcell⟩ := h.rowCells hi hb hwr hfl
    have hH : Go.Sort.Holds (fun v : Value => v) (w.drewN n) L.blk L.off b.cells.toArray := fun j hj => by
      have hj' : j < b.cells.length := by simpa using hj
      have := hcell j b.cells[j] (by simp [hj'])
      have e3 : (b.cells.toArray[j]! : Value) = b.cells[j] := by simp [hj']
      rw [e3]
      exact ⟨this.1, this.2⟩
    have hs := stores_of_holds P hH 0 cs (by rw [Nat.zero_add]; simpa using Nat.le_of_eq hl) fun v hv => List.all_eq_true.1 h1 v hv
    rw [Nat.add_zero] at e1 hs
    have e1' : Sem.run P (storeCells ⟨L.blk, L.off, none⟩ cs 0) (w.drewN n) = .ok () w' := e1
    rw [hs] at e1'
    injection e1' with _ e4
    subst e4
    exact e2.grow os
  · obtain ⟨w', _, _, e3, _⟩ := hd.store (P := P) (B := B) (hst B) hi hfv
    exact e3
/-- A call that writes one row anew. -/
theorem Runs_put {P : Program} {f : FuncId} {H : Heap} {id n c : Nat} {b : Blk} {more : List Value} (hb : getB H id = some b) (hn : 0 < n) (hc : n ≤ c) (hwr : b.wr = true) (hfl : b.fl = true) {cs : List Value} (hl : cs.length = b.cells.length) (hcf : cs.all flatV = true) (h1 : cs.all (·.oneCell') = true)
    (hen : Enters P f) (hmore : ∀ {ι : Ren} {ys : List Value}, LRel ι more ys → ys = more)
    (hcon : ∀ (w : World) (blk off cap : Nat), (∀ (j : Nat) (v : Value), b.cells[j]? = some v → w.cell? ⟨blk, off + j, none⟩ = some v ∧ w.frozen? ⟨blk, off + j, none⟩ = false) → blk < w.heap.size → Calls P f ⟨.slice (some ⟨blk, off, none⟩) n cap :: more⟩ w fun e w' => e = .returned (.tuple #[]) ∧ ∃ m os, w' = Go.Sort.grow ((w.drewN m).setCells blk off cs) os) :
    Runs P f (.slice (some ⟨id, 0, none⟩) n c :: more) H (fun u G => u = .tuple #[] ∧ G = H.set id (some { b with cells := cs })) := by
  refine ⟨hen, fun w0 ι w args' h2 h3 => ?_⟩
  obtain ⟨v', ys, rfl, hv, hys⟩ := h3.inv_cons
  have := hmore hys
  subst this
  cases hv with
  | sl _ _ _ _ L a' c' hi hn' hz hl' hx ha =>
    have hcne : c' ≠ 0 := by omega
    have ha := ha.resolve_right hcne
    subst ha
    rw [Nat.add_zero]
    obtain ⟨hlt, hcell⟩ := h2.rowCells hi (getB_eq.1 hb) hwr hfl
    refine (hcon w L.blk L.off c' hcell hlt).mono fun e w' ⟨he, m, os, hw⟩ => ?_
    obtain ⟨g1, g2⟩ := h2.put P hi (getB_eq.1 hb) hwr hfl hl hcf h1 m os
    exact ⟨_, _, _, ι, he, ⟨rfl, rfl⟩, .tuple _ _ rfl (fun i v v' h => by simp at h), by rw [hw]; exact g1, .refl _ _, g2 _, by simp⟩
end Go.Proofs.Ytiojoddcckhjdaa.Eng
set_option linter.unusedVariables false
set_option linter.unusedSimpArgs false
namespace Go.Proofs.Ytiojoddcckhjdaa.Eng
open Go Go.RowKit
set_option maxRecDepth 100000
def srt (L : List Int) : List Int := L.mergeSort (fun a b => decide (a ≤ b))
def upS (M : List Int) (i : Nat) : Prop := ∀ (a b : Nat) (x y : Int), a < b → b < i → M[a]? = some x → M[b]? = some y → x ≤ y
/-- In order up to i, but for the one at k, which is not above those behind it. -/
def hole (M : List Int) (i k : Nat) : Prop := (∀ (a b : Nat) (x y : Int), a < b → b ≤ i → a ≠ k → b ≠ k → M[a]? = some x → M[b]? = some y → x ≤ y) ∧ ∀ (b : Nat) (x y : Int), k < b → b ≤ i → M[k]? = some x → M[b]? = some y → x ≤ y
theorem hole_0 {M : List Int} {i : Nat} (h : upS M i) : hole M i i := ⟨fun a b x y h1 h2 h3 h4 h5 h6 => h a b x y h1 (by omega) h5 h6, fun b x y h1 h2 => by omega⟩
theorem sw_get {M : List Int} {k j : Nat} {x y : Int} (hk : k + 1 < M.length) : ((M.set (k + 1) y).set k x)[j]? = if j = k then some x else if j = k + 1 then some y else M[j]? := by
  by_cases h1 : j = k
  · subst h1; rw [if_pos rfl, List.getElem?_set_self (by rw [List.length_set]; omega)]
  · rw [if_neg h1, List.getElem?_set_ne (by omega)]
    by_cases h2 : j = k + 1
    · subst h2; rw [if_pos rfl, List.getElem?_set_self hk]
    · rw [if_neg h2, List.getElem?_set_ne (by omega)]
theorem hole_s {M : List Int} {i k : Nat} {x y : Int} (h : hole M i (k + 1)) (hk : k + 1 < M.length) (hx : M[k + 1]? = some x) (hy : M[k]? = some y) (hlt : x < y) : hole ((M.set (k + 1) y).set k x) i k := by
  refine ⟨fun a b u v h1 h2 h3 h4 h5 h6 => ?_, fun b u v h1 h2 h5 h6 => ?_⟩
  · rw [sw_get hk, if_neg h3] at h5
    rw [sw_get hk, if_neg h4] at h6
    by_cases ha : a = k + 1
    · rw [if_pos ha] at h5
      rw [if_neg (by omega)] at h6
      obtain rfl := Option.some.inj h5
      exact h.1 k b _ v (by omega) h2 (by omega) (by omega) hy h6
    · rw [if_neg ha] at h5
      by_cases hb : b = k + 1
      · rw [if_pos hb] at h6
        obtain rfl := Option.some.inj h6
        exact h.1 a k u _ (by omega) (by omega) (by omega) (by omega) h5 hy
      · rw [if_neg hb] at h6
        exact h.1 a b u v h1 h2 ha hb h5 h6
  · rw [sw_get hk, if_pos rfl] at h5
    obtain rfl := Option.some.inj h5
    rw [sw_get hk, if_neg (by omega)] at h6
    by_cases hb : b = k + 1
    · rw [if_pos hb] at h6
      obtain rfl := Option.some.inj h6
      omega
    · rw [if_neg hb] at h6
      exact h.2 b _ v (by omega) h2 hx h6
theorem hole_e {M : List Int} {i k : Nat} (h : hole M i k) (hk : ∀ (x y : Int), 0 < k → M[k]? = some x → M[k - 1]? = some y → y ≤ x) (hlen : k < M.length) : upS M (i + 1) := fun a b x y h1 h2 h3 h4 => by
  by_cases ha : a = k
  · subst ha; exact h.2 b x y h1 (by omega) h3 h4
  · by_cases hb : b = k
    · subst hb
      obtain ⟨z, hz⟩ : ∃ z, M[b - 1]? = some z := ⟨M[b - 1]'(by omega), List.getElem?_eq_getElem (by omega)⟩
      have h5 := hk y z (by omega) h4 hz
      by_cases hq : a = b - 1
      · subst hq; rw [h3] at hz; obtain rfl := Option.some.inj hz; exact h5
      · have := h.1 a (b - 1) x z (by omega) (by omega) ha (by omega) h3 hz; omega
    · exact h.1 a b x y h1 (by omega) ha hb h3 h4
theorem sw_perm {M : List Int} {k : Nat} {x y : Int} (hk : k + 1 < M.length) (hx : M[k + 1]? = some x) (hy : M[k]? = some y) : ((M.set (k + 1) y).set k x).Perm M := by
  obtain ⟨h1, rfl⟩ := List.getElem?_eq_some_iff.1 hx
  obtain ⟨h2, rfl⟩ := List.getElem?_eq_some_iff.1 hy
  exact List.set_set_perm h1 h2
theorem pw_of {M : List Int} (h : upS M M.length) : M.Pairwise (fun a b => (decide (a ≤ b)) = true) := by
  rw [List.pairwise_iff_getElem]
  intro i j hi hj hij
  exact decide_eq_true (h i j _ _ hij hj (List.getElem?_eq_getElem hi) (List.getElem?_eq_getElem hj))
theorem srt_pw (L : List Int) : (srt L).Pairwise (fun a b => (decide (a ≤ b)) = true) := List.pairwise_mergeSort (le := fun a b => decide (a ≤ b)) (fun a b c h1 h2 => by simp only [decide_eq_true_eq] at *; omega) (fun a b => by simp only [Bool.or_eq_true, decide_eq_true_eq]; omega) L
theorem srt_perm (L : List Int) : (srt L).Perm L := List.mergeSort_perm L _
theorem srt_of {L M : List Int} (hp : M.Perm L) (hs : upS M M.length) : M = srt L := by
  have h1 := pw_of hs
  have h2 := srt_pw L
  refine List.Perm.eq_of_pairwise (le := fun a b => decide (a ≤ b) = true) ?_ h1 h2 (hp.trans (srt_perm L).symm)
  intro a b _ _ h3 h4
  simp only [decide_eq_true_eq] at h3 h4; omega
theorem srt_len (L : List Int) : (srt L).length = L.length := List.length_mergeSort ..
end Go.Proofs.Ytiojoddcckhjdaa.Eng
set_option linter.unusedVariables false
set_option linter.unusedSimpArgs false
namespace Go.Proofs.Ytiojoddcckhjdaa.Eng
open Go Go.RowKit
set_option maxRecDepth 100000
/-- A number that is a reading. -/
def plainB (n : Int) : Bool := decide (-1000000 ≤ n ∧ n ≤ 1000000)
def s_count : Spec := fun args S => match args, S with
  | [.int .i64 n], [] => ⟨-9223372036854775808 ≤ n ∧ n < 9223372036854775808, .bool (decide (1 ≤ n ∧ n ≤ 64)), []⟩
  | _, _ => noSpec
theorem ok_isCount : SpecOk Try.prog 45 s_count := by
  intro args S h; unfold s_count at h ⊢; (split at h <;> first | exact False.elim h | skip)
  dsimp only at h ⊢
  refine funW tabOk (E := [(25, s_within)]) ⟨ok_within, trivial⟩ [] (k := 0) (fn := Try.f45) rfl rfl rfl rfl rfl rfl ?_
  (repeat' ((try (conv => whnf)); first | (with_reducible first | refine And.intro ?_ ?_ | refine WX.of ?_) | exact zc | ((with_reducible refine VC.mk ?_); exact zw) | (with_reducible first | refine splitT ?_ | refine splitF ?_) | ((with_reducible refine splitM.mk (fun hsm => ?_) (fun hsm => ?_)) <;> (try exact zx)) | ((with_reducible refine splitB.mk (fun h => ?_) (fun h => ?_)) <;> (try simp only [zs, ne_eq] at h) <;> (try simp (disch := omega) only [w64] at h) <;> (try exact zx)) | (with_reducible intro hz; (try exact absurd hz (Nat.succ_ne_zero _)))))
  all_goals (first | exact ⟨rfl⟩ | (refine ⟨?_⟩; simp_all; done) | (refine ⟨?_⟩; simp_all; omega))
theorem ok_l06Many : SpecOk Try.prog 40 s_count := by
  intro args S h; unfold s_count at h ⊢; (split at h <;> first | exact False.elim h | skip)
  dsimp only at h ⊢
  refine funW tabOk (E := [(21, s_within)]) ⟨ok_l00In, trivial⟩ [] (k := 0) (fn := Try.f40) rfl rfl rfl rfl rfl rfl ?_
  (repeat' ((try (conv => whnf)); first | (with_reducible first | refine And.intro ?_ ?_ | refine WX.of ?_) | exact zc | ((with_reducible refine VC.mk ?_); exact zw) | (with_reducible first | refine splitT ?_ | refine splitF ?_) | ((with_reducible refine splitM.mk (fun hsm => ?_) (fun hsm => ?_)) <;> (try exact zx)) | ((with_reducible refine splitB.mk (fun h => ?_) (fun h => ?_)) <;> (try simp only [zs, ne_eq] at h) <;> (try simp (disch := omega) only [w64] at h) <;> (try exact zx)) | (with_reducible intro hz; (try exact absurd hz (Nat.succ_ne_zero _)))))
  all_goals (first | exact ⟨rfl⟩ | (refine ⟨?_⟩; simp_all; done) | (refine ⟨?_⟩; simp_all; omega))
def s_plain : Spec := fun args S => match args, S with
  | [.int .i64 n], [] => ⟨True, .bool (plainB n), []⟩
  | _, _ => noSpec
theorem ok_l06Plain : SpecOk Try.prog 41 s_plain := by
  intro args S h; unfold s_plain at h ⊢; (split at h <;> first | exact False.elim h | skip)
  dsimp only at h ⊢
  refine funW tabOk (E := [(21, s_within)]) ⟨ok_l00In, trivial⟩ [] (k := 0) (fn := Try.f41) rfl rfl rfl rfl rfl rfl ?_
  (repeat' ((try (conv => whnf)); first | (with_reducible first | refine And.intro ?_ ?_ | refine WX.of ?_) | exact zc | ((with_reducible refine VC.mk ?_); exact zw) | (with_reducible first | refine splitT ?_ | refine splitF ?_) | ((with_reducible refine splitM.mk (fun hsm => ?_) (fun hsm => ?_)) <;> (try exact zx)) | ((with_reducible refine splitB.mk (fun h => ?_) (fun h => ?_)) <;> (try simp only [zs, ne_eq] at h) <;> (try simp (disch := omega) only [w64] at h) <;> (try exact zx)) | (with_reducible intro hz; (try exact absurd hz (Nat.succ_ne_zero _)))))
def s_notPlain : Spec := fun args S => match args, S with
  | [.int .i64 n], [] => ⟨True, .bool (!plainB n), []⟩
  | _, _ => noSpec
theorem ok_areReadings1 : SpecOk Try.prog 47 s_notPlain := by
  intro args S h; unfold s_notPlain at h ⊢; (split at h <;> first | exact False.elim h | skip)
  dsimp only at h ⊢
  refine funW tabOk (E := [(25, s_within)]) ⟨ok_within, trivial⟩ [] (k := 0) (fn := Try.f47) rfl rfl rfl rfl rfl rfl ?_
  (repeat' ((try (conv => whnf)); first | (with_reducible first | refine And.intro ?_ ?_ | refine WX.of ?_) | exact zc | ((with_reducible refine VC.mk ?_); exact zw) | (with_reducible first | refine splitT ?_ | refine splitF ?_) | ((with_reducible refine splitM.mk (fun hsm => ?_) (fun hsm => ?_)) <;> (try exact zx)) | ((with_reducible refine splitB.mk (fun h => ?_) (fun h => ?_)) <;> (try simp only [zs, ne_eq] at h) <;> (try simp (disch := omega) only [w64] at h) <;> (try exact zx)) | (with_reducible intro hz; (try exact absurd hz (Nat.succ_ne_zero _)))))
/-- The first that is not plain. -/
def s_idxPlain (g : Nat) : Spec := fun args S => match args, S with
  | [.sl 0 s n x, .fn g' []], [.arr (.int .i64) l 1 wr] => ⟨g' = g ∧ s + n ≤ l.length ∧ n ≤ 4611686018427387904, .int .i64 (findI (fun a => !plainB a) (seg l s n)), [.arr (.int .i64) l 1 wr]⟩
  | _, _ => noSpec
theorem ok_idxPlain : SpecOk Try.prog 57 (s_idxPlain 47) := by
  intro args S h; unfold s_idxPlain at h ⊢; (split at h <;> first | exact False.elim h | skip)
  dsimp only at h ⊢
  rename_i s n x g l wr
  obtain ⟨rfl, h1, h2⟩ := h
  have hL := seg_len h1
  refine funW tabOk (E := [(47, s_notPlain)]) ⟨ok_areReadings1, trivial⟩ [] (k := 1) (fn := Try.f57) rfl rfl rfl rfl rfl rfl ?_
  (repeat' ((try (conv => whnf)); first | (with_reducible first | refine And.intro ?_ ?_ | refine WX.of ?_) | exact zc | ((with_reducible refine VC.mk ?_); exact zw) | (with_reducible first | refine splitT ?_ | refine splitF ?_) | ((with_reducible refine splitM.mk (fun hsm => ?_) (fun hsm => ?_)) <;> (try exact zx)) | ((with_reducible refine splitB.mk (fun h => ?_) (fun h => ?_)) <;> (try simp only [zs, ne_eq] at h) <;> (try simp (disch := omega) only [w64] at h) <;> (try exact zx)) | (with_reducible intro hz; (try exact absurd hz (Nat.succ_ne_zero _)))))
  refine loopW tabOk (E := [(47, s_notPlain)]) ⟨ok_areReadings1, trivial⟩ [] (σ := Nat) (fun i => [(0, .sl 0 s n x), (1, .fn 47 []), (7, .int .i64 n), (8, .int .i64 i)]) (fun i => [.arr (.int .i64) l 1 wr]) (fun i => n - i) (fun i => i ≤ n ∧ ∀ (j : Nat) a, j < i → (seg l s n)[j]? = some a → (!plainB a) = false) 0 ⟨Nat.zero_le _, fun j a hj => by omega⟩ ?_ ?_
  · (repeat' ((try (conv => whnf)); first | (with_reducible first | refine And.intro ?_ ?_ | refine WX.of ?_) | exact zc | ((with_reducible refine VC.mk ?_); exact zw) | (with_reducible first | refine splitT ?_ | refine splitF ?_) | ((with_reducible refine splitM.mk (fun hsm => ?_) (fun hsm => ?_)) <;> (try exact zx)) | ((with_reducible refine splitB.mk (fun h => ?_) (fun h => ?_)) <;> (try simp only [zs, ne_eq] at h) <;> (try simp (disch := omega) only [w64] at h) <;> (try exact zx)) | (with_reducible intro hz; (try exact absurd hz (Nat.succ_ne_zero _)))))
  · intro i ⟨hi, hp⟩
    by_cases hlt : i < n
    · obtain ⟨a, ha⟩ := get_some (l := seg l s n) (i := i) (by omega)
      (repeat' ((try (conv => whnf)); first | (with_reducible first | refine And.intro ?_ ?_ | refine WX.of ?_) | exact zc | ((with_reducible refine VC.mk ?_); exact zw) | refine atL_i ha ?_ | (with_reducible first | refine splitT ?_ | refine splitF ?_) | ((with_reducible refine splitM.mk (fun hsm => ?_) (fun hsm => ?_)) <;> (try exact zx)) | ((with_reducible refine splitB.mk (fun h => ?_) (fun h => ?_)) <;> (try simp only [zs, ne_eq] at h) <;> (try simp (disch := omega) only [w64] at h) <;> (try exact zx)) | (with_reducible intro hz; (try exact absurd hz (Nat.succ_ne_zero _)))))
      · exact ⟨by rw [findI_some ha (by simp [h]) hp]⟩
      · refine ⟨i + 1, by omega, ⟨hlt, upto_step ha (by simp [h]) hp⟩, ?_⟩
        (repeat' ((try (conv => whnf)); first | (with_reducible first | refine And.intro ?_ ?_ | refine WX.of ?_) | exact zc | ((with_reducible refine VC.mk ?_); exact zw) | (with_reducible first | refine splitT ?_ | refine splitF ?_) | ((with_reducible refine splitM.mk (fun hsm => ?_) (fun hsm => ?_)) <;> (try exact zx)) | ((with_reducible refine splitB.mk (fun h => ?_) (fun h => ?_)) <;> (try simp only [zs, ne_eq] at h) <;> (try simp (disch := omega) only [w64] at h) <;> (try exact zx)) | (with_reducible intro hz; (try exact absurd hz (Nat.succ_ne_zero _)))))
    · (repeat' ((try (conv => whnf)); first | (with_reducible first | refine And.intro ?_ ?_ | refine WX.of ?_) | exact zc | ((with_reducible refine VC.mk ?_); exact zw) | (with_reducible first | refine splitT ?_ | refine splitF ?_) | ((with_reducible refine splitM.mk (fun hsm => ?_) (fun hsm => ?_)) <;> (try exact zx)) | ((with_reducible refine splitB.mk (fun h => ?_) (fun h => ?_)) <;> (try simp only [zs, ne_eq] at h) <;> (try simp (disch := omega) only [w64] at h) <;> (try exact zx)) | (with_reducible intro hz; (try exact absurd hz (Nat.succ_ne_zero _)))))
      exact ⟨by rw [findI_none fun j a hj => hp j a (by have := (List.getElem?_eq_some_iff.1 hj).1; omega) hj]⟩
def s_anyPlain (g : Nat) : Spec := fun args S => match args, S with
  | [.sl 0 s n x, .fn g' []], [.arr (.int .i64) l 1 wr] => ⟨g' = g ∧ s + n ≤ l.length ∧ n ≤ 4611686018427387904, .bool ((seg l s n).any fun a => !plainB a), [.arr (.int .i64) l 1 wr]⟩
  | _, _ => noSpec
theorem ok_anyPlain : SpecOk Try.prog 46 (s_anyPlain 47) := by
  intro args S h; unfold s_anyPlain at h ⊢; (split at h <;> first | exact False.elim h | skip)
  dsimp only at h ⊢
  rename_i s n x g l wr
  obtain ⟨rfl, h1, h2⟩ := h
  refine funW tabOk (E := [(57, (s_idxPlain 47))]) ⟨ok_idxPlain, trivial⟩ [] (k := 1) (fn := Try.f46) rfl rfl rfl rfl rfl rfl ?_
  (repeat' ((try (conv => whnf)); first | (with_reducible first | refine And.intro ?_ ?_ | refine WX.of ?_) | exact zc | ((with_reducible refine VC.mk ?_); exact zw) | (with_reducible first | refine splitT ?_ | refine splitF ?_) | ((with_reducible refine splitM.mk (fun hsm => ?_) (fun hsm => ?_)) <;> (try exact zx)) | ((with_reducible refine splitB.mk (fun h => ?_) (fun h => ?_)) <;> (try simp only [zs, ne_eq] at h) <;> (try simp (disch := omega) only [w64] at h) <;> (try exact zx)) | (with_reducible intro hz; (try exact absurd hz (Nat.succ_ne_zero _)))))
  exact ⟨by rw [findI_any]⟩
/-- Readings. -/
def areB (L : List Int) : Bool := decide (1 ≤ L.length ∧ L.length ≤ 64) && L.all plainB
def s_are : Spec := fun args S => match args, S with
  | [.sl 0 s n x], [.arr (.int .i64) l 1 wr] => ⟨s + n ≤ l.length ∧ n ≤ 1048576, .bool (areB (seg l s n)), [.arr (.int .i64) l 1 wr]⟩
  | _, _ => noSpec
theorem ok_areReadings : SpecOk Try.prog 24 s_are := by
  intro args S h; unfold s_are at h ⊢; (split at h <;> first | exact False.elim h | skip)
  dsimp only at h ⊢
  rename_i s n x l wr
  have hL := seg_len h.1
  refine funW tabOk (E := [(45, s_count), (46, (s_anyPlain 47))]) ⟨ok_isCount, ok_anyPlain, trivial⟩ [] (k := 1) (fn := Try.f24) rfl rfl rfl rfl rfl rfl ?_
  (repeat' ((try (conv => whnf)); first | (with_reducible first | refine And.intro ?_ ?_ | refine WX.of ?_) | exact zc | ((with_reducible refine VC.mk ?_); exact zw) | (with_reducible first | refine splitT ?_ | refine splitF ?_) | ((with_reducible refine splitM.mk (fun hsm => ?_) (fun hsm => ?_)) <;> (try exact zx)) | ((with_reducible refine splitB.mk (fun h => ?_) (fun h => ?_)) <;> (try simp only [zs, ne_eq] at h) <;> (try simp (disch := omega) only [w64] at h) <;> (try exact zx)) | (with_reducible intro hz; (try exact absurd hz (Nat.succ_ne_zero _)))))
  · refine ⟨?_⟩
    unfold areB
    rw [hL, decide_eq_true (by omega), List.all_eq_not_any_not]; rfl
  · refine ⟨?_⟩
    unfold areB
    rw [hL, decide_eq_false (by omega)]; rfl
/-- The code of readings. -/
def areCode (L : List Int) : Int := if areB L = true then 0 else 2
def s_l06List : Spec := fun args S => match args, S with
  | [.sl 0 s n x], [.arr (.int .i64) l 1 wr] => ⟨s + n ≤ l.length ∧ n ≤ 1048576, .int .i64 (areCode (seg l s n)), [.arr (.int .i64) l 1 wr]⟩
  | _, _ => noSpec
theorem ok_l06List : SpecOk Try.prog 20 s_l06List := by
  intro args S h; unfold s_l06List at h ⊢; (split at h <;> first | exact False.elim h | skip)
  dsimp only at h ⊢
  rename_i s n x l wr
  have hL := seg_len h.1
  refine funW tabOk (E := [(40, s_count), (41, s_plain)]) ⟨ok_l06Many, ok_l06Plain, trivial⟩ [] (k := 1) (fn := Try.f20) rfl rfl rfl rfl rfl rfl ?_
  (repeat' ((try (conv => whnf)); first | (with_reducible first | refine And.intro ?_ ?_ | refine WX.of ?_) | exact zc | ((with_reducible refine VC.mk ?_); exact zw) | (with_reducible first | refine splitT ?_ | refine splitF ?_) | ((with_reducible refine splitM.mk (fun hsm => ?_) (fun hsm => ?_)) <;> (try exact zx)) | ((with_reducible refine splitB.mk (fun h => ?_) (fun h => ?_)) <;> (try simp only [zs, ne_eq] at h) <;> (try simp (disch := omega) only [w64] at h) <;> (try exact zx)) | (with_reducible intro hz; (try exact absurd hz (Nat.succ_ne_zero _)))))
  · refine ⟨?_⟩
    unfold areCode areB
    rw [hL, decide_eq_false (by omega)]; rfl
  · refine loopW tabOk (E := [(40, s_count), (41, s_plain)]) ⟨ok_l06Many, ok_l06Plain, trivial⟩ [] (σ := Nat) (fun i => [(0, .sl 0 s n x), (3, .int .i64 i)]) (fun i => [.arr (.int .i64) l 1 wr]) (fun i => n - i) (fun i => i ≤ n ∧ ∀ (j : Nat) a, j < i → (seg l s n)[j]? = some a → plainB a = true) 0 ⟨Nat.zero_le _, fun j a hj => by omega⟩ ?_ ?_
    · (repeat' ((try (conv => whnf)); first | (with_reducible first | refine And.intro ?_ ?_ | refine WX.of ?_) | exact zc | ((with_reducible refine VC.mk ?_); exact zw) | (with_reducible first | refine splitT ?_ | refine splitF ?_) | ((with_reducible refine splitM.mk (fun hsm => ?_) (fun hsm => ?_)) <;> (try exact zx)) | ((with_reducible refine splitB.mk (fun h => ?_) (fun h => ?_)) <;> (try simp only [zs, ne_eq] at h) <;> (try simp (disch := omega) only [w64] at h) <;> (try exact zx)) | (with_reducible intro hz; (try exact absurd hz (Nat.succ_ne_zero _)))))
    · intro i ⟨hi, hp⟩
      by_cases hlt : i < n
      · obtain ⟨a, ha⟩ := get_some (l := seg l s n) (i := i) (by omega)
        (repeat' ((try (conv => whnf)); first | (with_reducible first | refine And.intro ?_ ?_ | refine WX.of ?_) | exact zc | ((with_reducible refine VC.mk ?_); exact zw) | refine atL_i ha ?_ | (with_reducible first | refine splitT ?_ | refine splitF ?_) | ((with_reducible refine splitM.mk (fun hsm => ?_) (fun hsm => ?_)) <;> (try exact zx)) | ((with_reducible refine splitB.mk (fun h => ?_) (fun h => ?_)) <;> (try simp only [zs, ne_eq] at h) <;> (try simp (disch := omega) only [w64] at h) <;> (try exact zx)) | (with_reducible intro hz; (try exact absurd hz (Nat.succ_ne_zero _)))))
        · refine ⟨?_⟩
          unfold areCode areB
          rw [all_no ha h]; simp
        · refine ⟨i + 1, by omega, ⟨hlt, upto_step ha h hp⟩, ?_⟩
          (repeat' ((try (conv => whnf)); first | (with_reducible first | refine And.intro ?_ ?_ | refine WX.of ?_) | exact zc | ((with_reducible refine VC.mk ?_); exact zw) | (with_reducible first | refine splitT ?_ | refine splitF ?_) | ((with_reducible refine splitM.mk (fun hsm => ?_) (fun hsm => ?_)) <;> (try exact zx)) | ((with_reducible refine splitB.mk (fun h => ?_) (fun h => ?_)) <;> (try simp only [zs, ne_eq] at h) <;> (try simp (disch := omega) only [w64] at h) <;> (try exact zx)) | (with_reducible intro hz; (try exact absurd hz (Nat.succ_ne_zero _)))))
      · (repeat' ((try (conv => whnf)); first | (with_reducible first | refine And.intro ?_ ?_ | refine WX.of ?_) | exact zc | ((with_reducible refine VC.mk ?_); exact zw) | (with_reducible first | refine splitT ?_ | refine splitF ?_) | ((with_reducible refine splitM.mk (fun hsm => ?_) (fun hsm => ?_)) <;> (try exact zx)) | ((with_reducible refine splitB.mk (fun h => ?_) (fun h => ?_)) <;> (try simp only [zs, ne_eq] at h) <;> (try simp (disch := omega) only [w64] at h) <;> (try exact zx)) | (with_reducible intro hz; (try exact absurd hz (Nat.succ_ne_zero _)))))
        refine ⟨?_⟩
        unfold areCode areB
        rw [hL, decide_eq_true (by omega), all_yes (n := i) (by omega) hp]; rfl
theorem are_all {L : List Int} (h : areB L = true) {i : Nat} {a : Int} (ha : L[i]? = some a) : -1000000 ≤ a ∧ a ≤ 1000000 := by
  unfold areB at h
  simp only [Bool.and_eq_true] at h
  have := List.all_eq_true.1 h.2 a (List.mem_of_getElem? ha)
  simpa [plainB] using this
theorem are_len {L : List Int} (h : areB L = true) : 1 ≤ L.length ∧ L.length ≤ 64 := by
  unfold areB at h
  simp only [Bool.and_eq_true, decide_eq_true_eq] at h
  exact h.1
theorem code_0 {L : List Int} : areCode L = 0 ↔ areB L = true := by unfold areCode; split <;> simp_all
def s_eqFrac : Spec := fun args S => match args, S with
  | [.agg [.int .i64 p, .int .i64 q], .agg [.int .i64 p', .int .i64 q']], [] => ⟨True, .bool (decide (p = p' ∧ q = q')), []⟩
  | _, _ => noSpec
theorem ok_eqFrac : SpecOk Try.prog 10 s_eqFrac := by
  intro args S h; unfold s_eqFrac at h ⊢; (split at h <;> first | exact False.elim h | skip)
  dsimp only at h ⊢
  refine funW tabOk (E := []) trivial [] (k := 0) (fn := Try.f10) rfl rfl rfl rfl rfl rfl ?_
  (repeat' ((try (conv => whnf)); first | (with_reducible first | refine And.intro ?_ ?_ | refine WX.of ?_) | exact zc | ((with_reducible refine VC.mk ?_); exact zw) | (with_reducible first | refine splitT ?_ | refine splitF ?_) | ((with_reducible refine splitM.mk (fun hsm => ?_) (fun hsm => ?_)) <;> (try exact zx)) | ((with_reducible refine splitB.mk (fun h => ?_) (fun h => ?_)) <;> (try simp only [zs, ne_eq] at h) <;> (try simp (disch := omega) only [w64] at h) <;> (try exact zx)) | (with_reducible intro hz; (try exact absurd hz (Nat.succ_ne_zero _)))))
  all_goals (refine ⟨congrArg SV.bool ?_⟩; (try dsimp only); (try simp (disch := omega) only [w64]); rw [Bool.eq_iff_iff]; try (simp []); try omega)
/-- Scaling changes no reduced fraction. -/
theorem redG_mul {g x y : Int} (hg : 0 < g) : redG (g * x) (g * y) = g * redG x y := by
  unfold redG
  rw [Int.gcd_mul_left]; push_cast
  rw [Int.natAbs_of_nonneg (by omega)]
theorem red_scale {g x y : Int} (hg : 0 < g) (hy : y ≠ 0) : redP (g * x) (g * y) = redP x y ∧ redQ (g * x) (g * y) = redQ x y := by
  have h1 : g * y < 0 ↔ y < 0 := by
    constructor
    · intro h; apply Classical.byContradiction; intro h2
      have := Int.mul_nonneg (show 0 ≤ g by omega) (show 0 ≤ y by omega); omega
    · intro h; exact Int.mul_neg_of_pos_of_neg hg h
  unfold redP redQ
  rw [redG_mul hg, Int.mul_ediv_mul_of_pos _ _ hg, Int.mul_ediv_mul_of_pos _ _ hg]
  by_cases h : y < 0
  · rw [if_pos h, if_pos (h1.2 h), if_pos h, if_pos (h1.2 h)]; exact ⟨rfl, rfl⟩
  · rw [if_neg h, if_neg (fun h2 => h (h1.1 h2)), if_neg h, if_neg (fun h2 => h (h1.1 h2))]; exact ⟨rfl, rfl⟩
theorem red_pos {p q : Int} (hq : 0 < q) : redP p q = p / redG p q ∧ redQ p q = q / redG p q := by
  unfold redP redQ; rw [if_neg (by omega), if_neg (by omega)]; exact ⟨rfl, rfl⟩
theorem red_back {p q : Int} (hq : 0 < q) : p = redG p q * redP p q ∧ q = redG p q * redQ p q := by
  rw [(red_pos hq).1, (red_pos hq).2]
  exact ⟨(Int.mul_ediv_cancel' (Int.gcd_dvd_left ..)).symm, (Int.mul_ediv_cancel' (Int.gcd_dvd_right ..)).symm⟩
theorem redQ_pos {p q : Int} (hq : 0 < q) : 0 < redQ p q := by
  have hg := redG_pos (p := p) (q := q) (by omega)
  have h := (red_back (p := p) hq).2
  apply Classical.byContradiction; intro h2
  have h3 : redG p q * redQ p q ≤ 0 := by
    have := Int.mul_nonneg (show 0 ≤ redG p q by omega) (show 0 ≤ -redQ p q by omega)
    rw [Int.mul_neg] at this; omega
  omega
/-- Small fractions are valid. -/
theorem redOk_small {p q : Int} (hp : -1000000000 ≤ p ∧ p ≤ 1000000000) (hq : 1 ≤ q ∧ q ≤ 1000000000) : redOk p q = true := by
  have hg := redG_pos (p := p) (q := q) (by omega)
  have e := red_pos (p := p) (q := q) (by omega)
  have h1 := redQ_pos (p := p) (q := q) (by omega)
  have h2 := ediv_small hg hp
  have h3 := ediv_small hg (p := q) (M := 1000000000) (by omega)
  have hgc : Int.gcd (redP p q) (redQ p q) = 1 := by
    rw [e.1, e.2]
    exact Int.gcd_ediv_gcd_ediv_gcd (by unfold redG at hg; omega)
  unfold redOk
  rw [fOk_iff]
  rw [← e.1, ← e.2] at *
  exact ⟨by omega, by omega, by omega, by omega, hgc⟩
/-- Comparing. -/
def cmpF (p q p' q' : Int) : Int := if p * q' < p' * q then -1 else if p * q' > p' * q then 1 else 0
def s_cmp : Spec := fun args S => match args, S with
  | [.agg [.int .i64 p, .int .i64 q], .agg [.int .i64 p', .int .i64 q']], [] => ⟨smF p q ∧ smF p' q', .int .i64 (cmpF p q p' q'), []⟩
  | _, _ => noSpec
theorem ok_compare : SpecOk Try.prog 36 s_cmp := by
  intro args S h; unfold s_cmp at h ⊢; (split at h <;> first | exact False.elim h | skip)
  dsimp only at h ⊢
  rename_i p q p' q'
  have hm := smF_mul h.1 h.2
  have hm' := smF_mul h.2 h.1
  refine funW tabOk (E := []) trivial [] (k := 0) (fn := Try.f36) rfl rfl rfl rfl rfl rfl ?_
  (repeat' ((try (conv => whnf)); first | (with_reducible first | refine And.intro ?_ ?_ | refine WX.of ?_) | exact zc | ((with_reducible refine VC.mk ?_); exact zw) | (with_reducible first | refine splitT ?_ | refine splitF ?_) | ((with_reducible refine splitM.mk (fun hsm => ?_) (fun hsm => ?_)) <;> (try exact zx)) | ((with_reducible refine splitB.mk (fun h => ?_) (fun h => ?_)) <;> (try simp only [zs, ne_eq] at h) <;> (try simp (disch := omega) only [w64] at h) <;> (try exact zx)) | (with_reducible intro hz; (try exact absurd hz (Nat.succ_ne_zero _)))))
  all_goals (refine ⟨?_⟩; unfold cmpF; first | (rw [if_pos (by omega)]; done) | (rw [if_neg (by omega), if_pos (by omega)]; done) | (rw [if_neg (by omega), if_neg (by omega)]))
theorem cmpF_le {p q p' q' : Int} : cmpF p q p' q' ≤ 0 ↔ p * q' ≤ p' * q := by unfold cmpF; (repeat' split) <;> omega
theorem cmpF_lt {p q p' q' : Int} : cmpF p q p' q' < 0 ↔ p * q' < p' * q := by unfold cmpF; (repeat' split) <;> omega
theorem cmpF_gt {p q p' q' : Int} : 0 < cmpF p q p' q' ↔ p' * q < p * q' := by unfold cmpF; (repeat' split) <;> omega
end Go.Proofs.Ytiojoddcckhjdaa.Eng
set_option linter.unusedVariables false
set_option linter.unusedSimpArgs false
namespace Go.Proofs.Ytiojoddcckhjdaa.Eng
open Go Go.RowKit
set_option maxRecDepth 100000
theorem atL_q {α : Type} {l : List α} {i j : Nat} {a : α} {K : α → Prop} (h : l[i]? = some a) (e : j = i) (hk : K a) : atL l j K := by
  subst e; exact atL_iff.2 ⟨a, h, hk⟩
def s_sorted : Spec := fun args S => match args, S with
  | [.sl 0 s n x], [.arr (.int .i64) l 1 wr] => ⟨s + n ≤ l.length ∧ 1 ≤ n ∧ n ≤ 1048576, .sl 1 0 n 0, [.arr (.int .i64) l 1 wr, .arr (.int .i64) (srt (seg l s n)) 1 true]⟩
  | _, _ => noSpec
theorem ok_l06Sorted : SpecOk Try.prog 22 s_sorted := by
  intro args S h; unfold s_sorted at h ⊢; (split at h <;> first | exact False.elim h | skip)
  dsimp only at h ⊢
  rename_i s n x l wr
  obtain ⟨h1, h2, h3⟩ := h
  have hL := seg_len h1
  refine funW tabOk (E := []) trivial [] (k := 1) (fn := Try.f22) rfl rfl rfl rfl rfl rfl ?_
  (repeat' ((try (conv => whnf)); first | (with_reducible first | refine And.intro ?_ ?_ | refine WX.of ?_) | exact zc | ((with_reducible refine VC.mk ?_); exact zw) | (with_reducible first | refine splitT ?_ | refine splitF ?_) | ((with_reducible refine splitM.mk (fun hsm => ?_) (fun hsm => ?_)) <;> (try exact zx)) | ((with_reducible refine splitB.mk (fun h => ?_) (fun h => ?_)) <;> (try simp only [zs, ne_eq] at h) <;> (try simp (disch := omega) only [w64] at h) <;> (try exact zx)) | (with_reducible intro hz; (try exact absurd hz (Nat.succ_ne_zero _)))))
  · exfalso; omega
  · refine loopW tabOk (E := []) trivial [] (σ := Nat × List Int) (fun i => [(3, .sl 2 0 n 0), (4, .int .i64 i.1)]) (fun i => [.arr (.int .i64) l 1 wr, .gone, .arr (.int .i64) i.2 1 true]) (fun i => n - i.1) (fun i => (1 ≤ i.1 ∧ i.1 ≤ n) ∧ i.2.Perm (seg l s n) ∧ upS i.2 i.1) (1, seg l s n) ⟨⟨Nat.le_refl _, h2⟩, List.Perm.refl _, fun a b x y hab hb => by dsimp only at hb; omega⟩ ?_ ?_
    · (repeat' ((try (conv => whnf)); first | (with_reducible first | refine And.intro ?_ ?_ | refine WX.of ?_) | exact zc | ((with_reducible refine VC.mk ?_); exact zw) | (with_reducible first | refine splitT ?_ | refine splitF ?_) | ((with_reducible refine splitM.mk (fun hsm => ?_) (fun hsm => ?_)) <;> (try exact zx)) | ((with_reducible refine splitB.mk (fun h => ?_) (fun h => ?_)) <;> (try simp only [zs, ne_eq] at h) <;> (try simp (disch := omega) only [w64] at h) <;> (try exact zx)) | (with_reducible intro hz; (try exact absurd hz (Nat.succ_ne_zero _)))))
    · intro ⟨i, M⟩ ⟨⟨hi0, hi⟩, hp, hu⟩
      dsimp only at hi0 hi hp hu ⊢
      have hlM : M.length = n := by rw [hp.length_eq, hL]
      by_cases hlt : i < n
      · (repeat' ((try (conv => whnf)); first | (with_reducible first | refine And.intro ?_ ?_ | refine WX.of ?_) | exact zc | ((with_reducible refine VC.mk ?_); exact zw) | (with_reducible first | refine splitT ?_ | refine splitF ?_) | ((with_reducible refine splitM.mk (fun hsm => ?_) (fun hsm => ?_)) <;> (try exact zx)) | ((with_reducible refine splitB.mk (fun h => ?_) (fun h => ?_)) <;> (try simp only [zs, ne_eq] at h) <;> (try simp (disch := omega) only [w64] at h) <;> (try exact zx)) | (with_reducible intro hz; (try exact absurd hz (Nat.succ_ne_zero _)))))
        refine loopW tabOk (E := []) trivial [] (σ := Nat × List Int) (fun k => [(3, .sl 2 0 n 0), (4, .int .i64 i), (5, .int .i64 k.1)]) (fun k => [.arr (.int .i64) l 1 wr, .gone, .arr (.int .i64) k.2 1 true]) (fun k => k.1) (fun k => k.1 ≤ i ∧ k.2.Perm (seg l s n) ∧ hole k.2 i k.1) (i, M) ⟨Nat.le_refl _, hp, hole_0 hu⟩ ?_ ?_
        · (repeat' ((try (conv => whnf)); first | (with_reducible first | refine And.intro ?_ ?_ | refine WX.of ?_) | exact zc | ((with_reducible refine VC.mk ?_); exact zw) | (with_reducible first | refine splitT ?_ | refine splitF ?_) | ((with_reducible refine splitM.mk (fun hsm => ?_) (fun hsm => ?_)) <;> (try exact zx)) | ((with_reducible refine splitB.mk (fun h => ?_) (fun h => ?_)) <;> (try simp only [zs, ne_eq] at h) <;> (try simp (disch := omega) only [w64] at h) <;> (try exact zx)) | (with_reducible intro hz; (try exact absurd hz (Nat.succ_ne_zero _)))))
        · intro ⟨k, R⟩ ⟨hk, hq, hh⟩
          dsimp only at hk hq hh ⊢
          have hlR : R.length = n := by rw [hq.length_eq, hL]
          by_cases h0 : k = 0
          · subst h0
            have hl0 : 0 < R.length := by omega
            have hu2 : upS R (i + 1) := hole_e hh (fun x y h => absurd h (Nat.lt_irrefl _)) hl0
            (repeat' ((try (conv => whnf)); first | (with_reducible first | refine And.intro ?_ ?_ | refine WX.of ?_) | exact zc | ((with_reducible refine VC.mk ?_); exact zw) | (with_reducible first | refine splitT ?_ | refine splitF ?_) | ((with_reducible refine splitM.mk (fun hsm => ?_) (fun hsm => ?_)) <;> (try exact zx)) | ((with_reducible refine splitB.mk (fun h => ?_) (fun h => ?_)) <;> (try simp only [zs, ne_eq] at h) <;> (try simp (disch := omega) only [w64] at h) <;> (try exact zx)) | (with_reducible intro hz; (try exact absurd hz (Nat.succ_ne_zero _)))))
            refine ⟨(i + 1, R), by dsimp only; omega, ⟨⟨by dsimp only; omega, hlt⟩, hq, hu2⟩, ?_⟩
            (repeat' ((try (conv => whnf)); first | (with_reducible first | refine And.intro ?_ ?_ | refine WX.of ?_) | exact zc | ((with_reducible refine VC.mk ?_); exact zw) | (with_reducible first | refine splitT ?_ | refine splitF ?_) | ((with_reducible refine splitM.mk (fun hsm => ?_) (fun hsm => ?_)) <;> (try exact zx)) | ((with_reducible refine splitB.mk (fun h => ?_) (fun h => ?_)) <;> (try simp only [zs, ne_eq] at h) <;> (try simp (disch := omega) only [w64] at h) <;> (try exact zx)) | (with_reducible intro hz; (try exact absurd hz (Nat.succ_ne_zero _)))))
          · obtain ⟨k, rfl⟩ : ∃ j, k = j + 1 := ⟨k - 1, by omega⟩
            obtain ⟨x, hx⟩ := get_some (l := R) (i := k + 1) (by omega)
            obtain ⟨y, hy⟩ := get_some (l := R) (i := k) (by omega)
            have hys : ∀ (j : Nat) (v : Int), j = k + 1 → (R.set j v)[k]? = some y := fun j v e => by subst e; rw [List.getElem?_set_ne (by omega)]; exact hy
            have hl1 : k + 1 < R.length := by omega
            have hset : ((R.set (0 + (((k + 1 : Nat) : Int)).toNat) y).set (0 + (IntKind.i64.wrap (((k + 1 : Nat) : Int) - 1)).toNat) x) = (R.set (k + 1) y).set k x := by
              rw [w64 (by omega), show 0 + (((k + 1 : Nat) : Int)).toNat = k + 1 by omega, show 0 + ((((k + 1 : Nat) : Int)) - 1).toNat = k by omega]
            by_cases hxy : x < y
            · (repeat' ((try (conv => whnf)); first | (with_reducible first | refine And.intro ?_ ?_ | refine WX.of ?_) | exact zc | ((with_reducible refine VC.mk ?_); exact zw) | refine atL_q (hys _ _ (by omega)) (by first  |  omega  |  (rw [w64 (by omega)]; omega)) ?_ | refine atL_q hx (by first  |  omega  |  (rw [w64 (by omega)]; omega)) ?_ | refine atL_q hy (by first  |  omega  |  (rw [w64 (by omega)]; omega)) ?_ | (with_reducible first | refine splitT ?_ | refine splitF ?_) | ((with_reducible refine splitM.mk (fun hsm => ?_) (fun hsm => ?_)) <;> (try exact zx)) | ((with_reducible refine splitB.mk (fun h => ?_) (fun h => ?_)) <;> (try simp only [zs, ne_eq] at h) <;> (try simp (disch := omega) only [w64] at h) <;> (try exact zx)) | (with_reducible intro hz; (try exact absurd hz (Nat.succ_ne_zero _)))))
              refine ⟨(k, (R.set (k + 1) y).set k x), by dsimp only; omega, ⟨by dsimp only; omega, (sw_perm (by omega) hx hy).trans hq, hole_s hh (by omega) hx hy hxy⟩, ?_⟩
              (repeat' ((try (conv => whnf)); first | (with_reducible first | refine And.intro ?_ ?_ | refine WX.of ?_) | exact zc | ((with_reducible refine VC.mk ?_); exact zw) | (with_reducible first | refine splitT ?_ | refine splitF ?_) | ((with_reducible refine splitM.mk (fun hsm => ?_) (fun hsm => ?_)) <;> (try exact zx)) | ((with_reducible refine splitB.mk (fun h => ?_) (fun h => ?_)) <;> (try simp only [zs, ne_eq] at h) <;> (try simp (disch := omega) only [w64] at h) <;> (try exact zx)) | (with_reducible intro hz; (try exact absurd hz (Nat.succ_ne_zero _)))))
            · have hu2 : upS R (i + 1) := hole_e hh (fun u v _ hu hv => by rw [hx] at hu; rw [Nat.add_sub_cancel, hy] at hv; obtain rfl := Option.some.inj hu; obtain rfl := Option.some.inj hv; exact Int.not_lt.1 hxy) hl1
              (repeat' ((try (conv => whnf)); first | (with_reducible first | refine And.intro ?_ ?_ | refine WX.of ?_) | exact zc | ((with_reducible refine VC.mk ?_); exact zw) | refine atL_q hx (by first  |  omega  |  (rw [w64 (by omega)]; omega)) ?_ | refine atL_q hy (by first  |  omega  |  (rw [w64 (by omega)]; omega)) ?_ | (with_reducible first | refine splitT ?_ | refine splitF ?_) | ((with_reducible refine splitM.mk (fun hsm => ?_) (fun hsm => ?_)) <;> (try exact zx)) | ((with_reducible refine splitB.mk (fun h => ?_) (fun h => ?_)) <;> (try simp only [zs, ne_eq] at h) <;> (try simp (disch := omega) only [w64] at h) <;> (try exact zx)) | (with_reducible intro hz; (try exact absurd hz (Nat.succ_ne_zero _)))))
              refine ⟨(i + 1, R), by dsimp only; omega, ⟨⟨by dsimp only; omega, hlt⟩, hq, hu2⟩, ?_⟩
              (repeat' ((try (conv => whnf)); first | (with_reducible first | refine And.intro ?_ ?_ | refine WX.of ?_) | exact zc | ((with_reducible refine VC.mk ?_); exact zw) | (with_reducible first | refine splitT ?_ | refine splitF ?_) | ((with_reducible refine splitM.mk (fun hsm => ?_) (fun hsm => ?_)) <;> (try exact zx)) | ((with_reducible refine splitB.mk (fun h => ?_) (fun h => ?_)) <;> (try simp only [zs, ne_eq] at h) <;> (try simp (disch := omega) only [w64] at h) <;> (try exact zx)) | (with_reducible intro hz; (try exact absurd hz (Nat.succ_ne_zero _)))))
      · obtain rfl : i = n := by omega
        have hM : M = srt (seg l s i) := srt_of hp (by rw [hlM]; exact hu)
        rw [← hM]
        (repeat' ((try (conv => whnf)); first | (with_reducible first | refine And.intro ?_ ?_ | refine WX.of ?_) | exact zc | ((with_reducible refine VC.mk ?_); exact zw) | (with_reducible first | refine splitT ?_ | refine splitF ?_) | ((with_reducible refine splitM.mk (fun hsm => ?_) (fun hsm => ?_)) <;> (try exact zx)) | ((with_reducible refine splitB.mk (fun h => ?_) (fun h => ?_)) <;> (try simp only [zs, ne_eq] at h) <;> (try simp (disch := omega) only [w64] at h) <;> (try exact zx)) | (with_reducible intro hz; (try exact absurd hz (Nat.succ_ne_zero _)))))
/-- Two times the median. -/
def twc (L : List Int) : Int := ((srt L)[(L.length - 1) / 2]?).getD 0 + ((srt L)[L.length / 2]?).getD 0
def s_twc : Spec := fun args S => match args, S with
  | [.sl 0 s n x], [.arr (.int .i64) l 1 wr] => ⟨(s + n ≤ l.length ∧ 1 ≤ n ∧ n ≤ 1048576) ∧ ∀ (j : Nat) (a : Int), (seg l s n)[j]? = some a → -1000000000 ≤ a ∧ a ≤ 1000000000, .int .i64 (twc (seg l s n)), [.arr (.int .i64) l 1 wr]⟩
  | _, _ => noSpec
theorem srt_at {L : List Int} {B : Int} (h : ∀ (j : Nat) (a : Int), L[j]? = some a → -B ≤ a ∧ a ≤ B) {j : Nat} {a : Int} (ha : (srt L)[j]? = some a) : -B ≤ a ∧ a ≤ B := by
  have hm : a ∈ L := (srt_perm L).mem_iff.1 (List.mem_of_getElem? ha)
  obtain ⟨k, hk⟩ := List.getElem?_of_mem hm
  exact h k a hk
theorem ok_l06Twice : SpecOk Try.prog 29 s_twc := by
  intro args S h; unfold s_twc at h ⊢; (split at h <;> first | exact False.elim h | skip)
  dsimp only at h ⊢
  rename_i s n x l wr
  obtain ⟨⟨h1, h2, h3⟩, hb⟩ := h
  have hL := seg_len h1
  have hs : (srt (seg l s n)).length = n := by rw [srt_len, hL]
  obtain ⟨u, hu⟩ := get_some (l := srt (seg l s n)) (i := (n - 1) / 2) (by omega)
  obtain ⟨v, hv⟩ := get_some (l := srt (seg l s n)) (i := n / 2) (by omega)
  have hbu := srt_at (B := 1000000000) hb hu
  have hbv := srt_at (B := 1000000000) hb hv
  have e : twc (seg l s n) = u + v := by unfold twc; rw [hL, hu, hv]; rfl
  rw [e]
  have hi1 : IntKind.i64.wrap ((IntKind.i64.wrap ((n : Int) - 1)).tdiv 2) = (((n - 1) / 2 : Nat) : Int) := by
    rw [w64 (n := (n : Int) - 1) (by omega), Int.tdiv_eq_ediv_of_nonneg (by omega), w64 (by omega)]; omega
  have hi2 : IntKind.i64.wrap ((n : Int).tdiv 2) = ((n / 2 : Nat) : Int) := by
    rw [Int.tdiv_eq_ediv_of_nonneg (by omega), w64 (by omega)]; omega
  refine funW tabOk (E := [(22, s_sorted)]) ⟨ok_l06Sorted, trivial⟩ [] (k := 1) (fn := Try.f29) rfl rfl rfl rfl rfl rfl ?_
  (repeat' ((try (conv => whnf)); first | (with_reducible first | refine And.intro ?_ ?_ | refine WX.of ?_) | exact zc | ((with_reducible refine VC.mk ?_); exact zw) | refine atL_q hu (by rw [hi1]; omega) ?_ | refine atL_q hv (by rw [hi2]; omega) ?_ | ((with_reducible refine VC.mk ?_); exact ⟨by rw [hi1]; omega, by rw [hi1]; omega⟩) | ((with_reducible refine VC.mk ?_); exact ⟨by rw [hi2]; omega, by rw [hi2]; omega⟩) | (with_reducible first | refine splitT ?_ | refine splitF ?_) | ((with_reducible refine splitM.mk (fun hsm => ?_) (fun hsm => ?_)) <;> (try exact zx)) | ((with_reducible refine splitB.mk (fun h => ?_) (fun h => ?_)) <;> (try simp only [zs, ne_eq] at h) <;> (try simp (disch := omega) only [w64] at h) <;> (try exact zx)) | (with_reducible intro hz; (try exact absurd hz (Nat.succ_ne_zero _)))))
  exact ⟨by rw [w64 (by omega)]⟩
end Go.Proofs.Ytiojoddcckhjdaa.Eng
set_option linter.unusedVariables false
set_option linter.unusedSimpArgs false
namespace Go.Proofs.Ytiojoddcckhjdaa.Eng
open Go Go.RowKit
set_option maxRecDepth 100000
def s_size : Spec := fun args S => match args, S with
  | [.agg [.int .i64 p, .int .i64 q]], [] => ⟨smF p q, .agg [.int .i64 (p.natAbs : Int), .int .i64 q], []⟩
  | _, _ => noSpec
theorem ok_size : SpecOk Try.prog 55 s_size := by
  intro args S h; unfold s_size at h ⊢; (split at h <;> first | exact False.elim h | skip)
  dsimp only at h ⊢
  rename_i p q
  unfold smF at h
  refine funW tabOk (E := []) trivial [] (k := 0) (fn := Try.f55) rfl rfl rfl rfl rfl rfl ?_
  (repeat' ((try (conv => whnf)); first | (with_reducible first | refine And.intro ?_ ?_ | refine WX.of ?_) | exact zc | ((with_reducible refine VC.mk ?_); exact zw) | (with_reducible first | refine splitT ?_ | refine splitF ?_) | ((with_reducible refine splitM.mk (fun hsm => ?_) (fun hsm => ?_)) <;> (try exact zx)) | ((with_reducible refine splitB.mk (fun h => ?_) (fun h => ?_)) <;> (try simp only [zs, ne_eq] at h) <;> (try simp (disch := omega) only [w64] at h) <;> (try exact zx)) | (with_reducible intro hz; (try exact absurd hz (Nat.succ_ne_zero _)))))
  refine ⟨?_⟩
  dsimp only
  rw [w64 (by omega)]
  have e : (if 0 - p > p then 0 - p else p) = (p.natAbs : Int) := by split <;> omega
  rw [e]
end Go.Proofs.Ytiojoddcckhjdaa.Eng
set_option linter.unusedVariables false
set_option linter.unusedSimpArgs false
namespace Go.Proofs.Ytiojoddcckhjdaa.Eng
open Go Go.RowKit
set_option maxRecDepth 100000
end Go.Proofs.Ytiojoddcckhjdaa.Eng
set_option linter.unusedVariables false
set_option linter.unusedSimpArgs false
namespace Go.Proofs.Ytiojoddcckhjdaa.Eng
open Go Go.RowKit
set_option maxRecDepth 100000
end Go.Proofs.Ytiojoddcckhjdaa.Eng
set_option linter.unusedVariables false
set_option linter.unusedSimpArgs false
namespace Go.Proofs.Ytiojoddcckhjdaa.Eng
open Go Go.RowKit
set_option maxRecDepth 100000
end Go.Proofs.Ytiojoddcckhjdaa.Eng
set_option linter.unusedVariables false
set_option linter.unusedSimpArgs false
namespace Go.Proofs.Ytiojoddcckhjdaa.Eng
open Go Go.RowKit
set_option maxRecDepth 100000
/-- The median's answer, and its code. -/
def medP (L : List Int) : Int := if areB L = true then redP (twc L) 2 else 0
def medQ (L : List Int) : Int := if areB L = true then redQ (twc L) 2 else 0
def s_med : Spec := fun args S => match args, S with
  | [.sl 0 s n x], [.arr (.int .i64) l 1 wr] => ⟨s + n ≤ l.length ∧ n ≤ 1048576, .tup [.agg [.int .i64 (medP (seg l s n)), .int .i64 (medQ (seg l s n))], .int .i64 (areCode (seg l s n))], [.arr (.int .i64) l 1 wr]⟩
  | _, _ => noSpec
theorem twc_b {L : List Int} (h : areB L = true) : -2000000 ≤ twc L ∧ twc L ≤ 2000000 := by
  have hn := are_len h
  have hs : (srt L).length = L.length := srt_len L
  obtain ⟨u, hu⟩ := get_some (l := srt L) (i := (L.length - 1) / 2) (by omega)
  obtain ⟨v, hv⟩ := get_some (l := srt L) (i := L.length / 2) (by omega)
  have hbu := srt_at (B := 1000000) (fun j a ha => are_all h ha) hu
  have hbv := srt_at (B := 1000000) (fun j a ha => are_all h ha) hv
  have e : twc L = u + v := by unfold twc; rw [hu, hv]; rfl
  omega
theorem ok_MedianOfS : SpecOk Try.prog 12 s_med := by
  intro args S h; unfold s_med at h ⊢; (split at h <;> first | exact False.elim h | skip)
  dsimp only at h ⊢
  rename_i s n x l wr
  obtain ⟨h1, h2⟩ := h
  have hL := seg_len h1
  cases hA : areB (seg l s n) with
  | false =>
    have hc : areCode (seg l s n) = 2 := by unfold areCode; rw [hA]; rfl
    have hp : medP (seg l s n) = 0 := by unfold medP; rw [hA]; rfl
    have hq : medQ (seg l s n) = 0 := by unfold medQ; rw [hA]; rfl
    rw [hc, hp, hq]
    refine funW tabOk (E := [(20, s_l06List)]) ⟨ok_l06List, trivial⟩ [] (k := 1) (fn := Try.f12) rfl rfl rfl rfl rfl rfl ?_
    (repeat' ((try (conv => whnf)); first | (with_reducible first | refine And.intro ?_ ?_ | refine WX.of ?_) | exact zc | ((with_reducible refine VC.mk ?_); exact zw) | ((with_reducible refine splitT_of ?_ ?_); (focus (simp only [hc, Bool.not_true, Bool.not_false, decide_true, decide_false]; done))) | ((with_reducible refine splitF_of ?_ ?_); (focus (simp only [hc, Bool.not_true, Bool.not_false, decide_true, decide_false]; done))) | (with_reducible first | refine splitT ?_ | refine splitF ?_) | ((with_reducible refine splitM.mk (fun hsm => ?_) (fun hsm => ?_)) <;> (try exact zx)) | ((with_reducible refine splitB.mk (fun h => ?_) (fun h => ?_)) <;> (try simp only [zs, ne_eq] at h) <;> (try simp (disch := omega) only [w64] at h) <;> (try exact zx)) | (with_reducible intro hz; (try exact absurd hz (Nat.succ_ne_zero _)))))
    all_goals (first | exact ⟨by rw [hc]⟩ | (exfalso; rw [hc] at h; simp at h; done) | trace_state)
  | true =>
    have hc : areCode (seg l s n) = 0 := code_0.2 hA
    have hp : medP (seg l s n) = redP (twc (seg l s n)) 2 := by unfold medP; rw [if_pos hA]
    have hq : medQ (seg l s n) = redQ (twc (seg l s n)) 2 := by unfold medQ; rw [if_pos hA]
    have hn := are_len hA
    rw [hL] at hn
    have hb := twc_b hA
    have ho := redOk_small (p := twc (seg l s n)) (q := 2) (by omega) (by omega)
    have hbd : ∀ (j : Nat) (a : Int), (seg l s n)[j]? = some a → -1000000000 ≤ a ∧ a ≤ 1000000000 := fun j a ha => by have := are_all hA ha; omega
    rw [hc, hp, hq]
    refine funW tabOk (E := [(20, s_l06List), (29, s_twc), (23, s_red)]) ⟨ok_l06List, ok_l06Twice, ok_l01Reduced, trivial⟩ [] (k := 1) (fn := Try.f12) rfl rfl rfl rfl rfl rfl ?_
    (repeat' ((try (conv => whnf)); first | (with_reducible first | refine And.intro ?_ ?_ | refine WX.of ?_) | exact zc | ((with_reducible refine VC.mk ?_); exact zw) | ((with_reducible refine splitT_of ?_ ?_); (focus (simp only [hc, Bool.not_true, Bool.not_false, decide_true, decide_false]; done))) | ((with_reducible refine splitF_of ?_ ?_); (focus (simp only [hc, Bool.not_true, Bool.not_false, decide_true, decide_false]; done))) | ((with_reducible refine VC.mk ?_); exact ⟨⟨h1, by omega, h2⟩, hbd⟩) | ((with_reducible refine VC.mk ?_); exact ⟨by omega, by omega, by omega⟩) | (with_reducible first | refine splitT ?_ | refine splitF ?_) | ((with_reducible refine splitM.mk (fun hsm => ?_) (fun hsm => ?_)) <;> (try exact zx)) | ((with_reducible refine splitB.mk (fun h => ?_) (fun h => ?_)) <;> (try simp only [zs, ne_eq] at h) <;> (try simp (disch := omega) only [w64] at h) <;> (try exact zx)) | (with_reducible intro hz; (try exact absurd hz (Nat.succ_ne_zero _)))))
    all_goals (first | (exfalso; rw [hc] at h; simp at h; done) | exact ⟨by simp only [ho, if_true]⟩ | trace_state)
end Go.Proofs.Ytiojoddcckhjdaa.Eng
set_option linter.unusedVariables false
set_option linter.unusedSimpArgs false
namespace Go.Proofs.Ytiojoddcckhjdaa.Eng
open Go Go.RowKit
set_option maxRecDepth 100000
/-- Numbers as fractions. -/
def frs (L : List Int) : List (Int × Int) := L.map fun a => (a, 1)
theorem frs_len (L : List Int) : (frs L).length = L.length := by simp [frs]
theorem frs_get {L : List Int} {i : Nat} {a : Int} (h : L[i]? = some a) : (frs L)[i]? = some (a, 1) := by unfold frs; rw [List.getElem?_map, h]; rfl
def s_fracs : Spec := fun args S => match args, S with
  | [.sl 0 s n x], [.arr (.int .i64) l 1 wr] => ⟨s + n ≤ l.length ∧ n ≤ 1048576, .sl 1 0 n 0, [.arr (.int .i64) l 1 wr, .arr (.prod (.int .i64) (.int .i64)) (frs (seg l s n)) 2 true]⟩
  | _, _ => noSpec
theorem ok_fracs : SpecOk Try.prog 32 s_fracs := by
  intro args S h; unfold s_fracs at h ⊢; (split at h <;> first | exact False.elim h | skip)
  dsimp only at h ⊢
  rename_i s n x l wr
  obtain ⟨h1, h2⟩ := h
  have hL := seg_len h1
  have hF : (frs (seg l s n)).length = n := by rw [frs_len, hL]
  refine funW tabOk (E := [(38, s_num)]) ⟨ok_num, trivial⟩ [] (k := 1) (fn := Try.f32) rfl rfl rfl rfl rfl rfl ?_
  (repeat' ((try (conv => whnf)); first | (with_reducible first | refine And.intro ?_ ?_ | refine WX.of ?_) | exact zc | ((with_reducible refine VC.mk ?_); exact zw) | (with_reducible first | refine splitT ?_ | refine splitF ?_) | ((with_reducible refine splitM.mk (fun hsm => ?_) (fun hsm => ?_)) <;> (try exact zx)) | ((with_reducible refine splitB.mk (fun h => ?_) (fun h => ?_)) <;> (try simp only [zs, ne_eq] at h) <;> (try simp (disch := omega) only [w64] at h) <;> (try exact zx)) | (with_reducible intro hz; (try exact absurd hz (Nat.succ_ne_zero _)))))
  refine loopW tabOk (E := [(38, s_num)]) ⟨ok_num, trivial⟩ [] (σ := Nat) (fun i => [(3, .sl 1 0 i 0), (7, .sl 0 s n x), (8, .int .i64 n), (9, .int .i64 i)]) (fun i => [.arr (.int .i64) l 1 wr, .arr (.prod (.int .i64) (.int .i64)) ((frs (seg l s n)).take i) 2 true]) (fun i => n - i) (fun i => i ≤ n) 0 (Nat.zero_le _) ?_ ?_
  · (repeat' ((try (conv => whnf)); first | (with_reducible first | refine And.intro ?_ ?_ | refine WX.of ?_) | exact zc | ((with_reducible refine VC.mk ?_); exact zw) | (with_reducible first | refine splitT ?_ | refine splitF ?_) | ((with_reducible refine splitM.mk (fun hsm => ?_) (fun hsm => ?_)) <;> (try exact zx)) | ((with_reducible refine splitB.mk (fun h => ?_) (fun h => ?_)) <;> (try simp only [zs, ne_eq] at h) <;> (try simp (disch := omega) only [w64] at h) <;> (try exact zx)) | (with_reducible intro hz; (try exact absurd hz (Nat.succ_ne_zero _)))))
  · intro i hi
    have hlen : ((frs (seg l s n)).take i).length = i := by rw [List.length_take]; omega
    by_cases hlt : i < n
    · obtain ⟨a, ha⟩ := get_some (l := seg l s n) (i := i) (by omega)
      (repeat' ((try (conv => whnf)); first | (with_reducible first | refine And.intro ?_ ?_ | refine WX.of ?_) | exact zc | ((with_reducible refine VC.mk ?_); exact zw) | refine atL_i ha ?_ | (with_reducible first | refine splitT ?_ | refine splitF ?_) | ((with_reducible refine splitM.mk (fun hsm => ?_) (fun hsm => ?_)) <;> (try exact zx)) | ((with_reducible refine splitB.mk (fun h => ?_) (fun h => ?_)) <;> (try simp only [zs, ne_eq] at h) <;> (try simp (disch := omega) only [w64] at h) <;> (try exact zx)) | (with_reducible intro hz; (try exact absurd hz (Nat.succ_ne_zero _)))))
      refine ⟨i + 1, by omega, hlt, ?_⟩
      (repeat' ((try (conv => whnf)); first | (with_reducible first | refine And.intro ?_ ?_ | refine WX.of ?_) | exact zc | ((with_reducible refine VC.mk ?_); exact zw) | (with_reducible first | refine splitT ?_ | refine splitF ?_) | ((with_reducible refine splitM.mk (fun hsm => ?_) (fun hsm => ?_)) <;> (try exact zx)) | ((with_reducible refine splitB.mk (fun h => ?_) (fun h => ?_)) <;> (try simp only [zs, ne_eq] at h) <;> (try simp (disch := omega) only [w64] at h) <;> (try exact zx)) | (with_reducible intro hz; (try exact absurd hz (Nat.succ_ne_zero _)))))
      exact ⟨app_take (frs_get ha)⟩
    · obtain rfl : i = n := by omega
      rw [List.take_of_length_le (by omega)]
      (repeat' ((try (conv => whnf)); first | (with_reducible first | refine And.intro ?_ ?_ | refine WX.of ?_) | exact zc | ((with_reducible refine VC.mk ?_); exact zw) | (with_reducible first | refine splitT ?_ | refine splitF ?_) | ((with_reducible refine splitM.mk (fun hsm => ?_) (fun hsm => ?_)) <;> (try exact zx)) | ((with_reducible refine splitB.mk (fun h => ?_) (fun h => ?_)) <;> (try simp only [zs, ne_eq] at h) <;> (try simp (disch := omega) only [w64] at h) <;> (try exact zx)) | (with_reducible intro hz; (try exact absurd hz (Nat.succ_ne_zero _)))))
end Go.Proofs.Ytiojoddcckhjdaa.Eng
set_option linter.unusedVariables false
set_option linter.unusedSimpArgs false
namespace Go.Proofs.Ytiojoddcckhjdaa.Eng
open Go Go.RowKit
set_option maxRecDepth 100000
/-- Halves of whole numbers. -/
def hal (a : Int) : Int × Int := (redP a 2, redQ a 2)
theorem red_eq {p q p' q' : Int} (hq : 0 < q) (hq' : 0 < q') (h : p * q' = p' * q) : redP p q = redP p' q' ∧ redQ p q = redQ p' q' := by
  have h1 := red_scale (g := q') (x := p) (y := q) hq' (by omega)
  have h2 := red_scale (g := q) (x := p') (y := q') hq (by omega)
  have e1 : q' * p = q * p' := by rw [Int.mul_comm, h, Int.mul_comm]
  have e2 : q' * q = q * q' := Int.mul_comm ..
  rw [e1, e2] at h1
  exact ⟨h1.1.symm.trans h2.1, h1.2.symm.trans h2.2⟩
theorem hal_q (a : Int) : 0 < (hal a).2 := redQ_pos (p := a) (q := 2) (by omega)
theorem hal_x (a : Int) : (hal a).1 * 2 = a * (hal a).2 := by
  have h := red_back (p := a) (q := 2) (by omega)
  unfold hal
  dsimp only
  generalize redP a 2 = P at *
  generalize redQ a 2 = Q at *
  generalize redG a 2 = g at *
  obtain ⟨h1, h2⟩ := h
  subst h1
  rw [h2]
  grind
theorem hal_lt (a b : Int) : (hal a).1 * (hal b).2 < (hal b).1 * (hal a).2 ↔ a < b := by
  have h1 := hal_x a
  have h2 := hal_x b
  have q1 := hal_q a
  have q2 := hal_q b
  generalize (hal a).1 = P at *
  generalize (hal a).2 = Q at *
  generalize (hal b).1 = R at *
  generalize (hal b).2 = S at *
  have e1 : (P * S) * 2 = a * (Q * S) := by grind
  have e2 : (R * Q) * 2 = b * (Q * S) := by grind
  have hp : 0 < Q * S := Int.mul_pos q1 q2
  constructor
  · intro h
    have : a * (Q * S) < b * (Q * S) := by omega
    exact Int.lt_of_mul_lt_mul_right this (by omega)
  · intro h
    have := Int.mul_lt_mul_of_pos_right h hp
    omega
theorem hal_ok {a : Int} (h : -1000000000 ≤ a ∧ a ≤ 1000000000) : fOk (hal a).1 (hal a).2 = true := by
  have := redOk_small (p := a) (q := 2) h (by omega)
  exact this
theorem hal_sm {a : Int} (h : -1000000000 ≤ a ∧ a ≤ 1000000000) : smF (hal a).1 (hal a).2 := smF_ok (hal_ok h)
theorem hal_2 (a : Int) : hal (2 * a) = (a, 1) := by
  have h := red_eq (p := 2 * a) (q := 2) (p' := a) (q' := 1) (by omega) (by omega) (by omega)
  unfold hal
  rw [h.1, h.2]
  unfold redP redQ redG
  simp
theorem frs_hal (L : List Int) : frs L = (L.map fun a => 2 * a).map hal := by
  unfold frs
  rw [List.map_map]
  exact List.map_congr_left fun a _ => (hal_2 a).symm
/-- Sorting what has been doubled. -/
theorem srt_2 (L : List Int) : srt (L.map fun a => 2 * a) = (srt L).map fun a => 2 * a := by
  symm
  refine srt_of ((srt_perm L).map _) ?_
  have h := srt_pw L
  rw [List.pairwise_iff_getElem] at h
  intro i j x y hij hj hx hy
  rw [List.getElem?_map] at hx hy
  rw [List.length_map] at hj
  obtain ⟨u, hu, rfl⟩ := Option.map_eq_some_iff.1 hx
  obtain ⟨v, hv, rfl⟩ := Option.map_eq_some_iff.1 hy
  obtain ⟨k1, rfl⟩ := List.getElem?_eq_some_iff.1 hu
  obtain ⟨k2, rfl⟩ := List.getElem?_eq_some_iff.1 hv
  have := h i j k1 k2 hij
  simp only [decide_eq_true_eq] at this
  omega
theorem twc_2 (L : List Int) : twc (L.map fun a => 2 * a) = 2 * twc L := by
  unfold twc
  rw [srt_2, List.length_map, List.getElem?_map, List.getElem?_map]
  have : ∀ x : Option Int, (x.map fun a => 2 * a).getD 0 = 2 * x.getD 0 := fun x => by cases x <;> rfl
  rw [this, this]; omega
def dbl (L : List Int) : List Int := L.map fun a => 2 * a
theorem dbl_len (L : List Int) : (dbl L).length = L.length := by simp [dbl]
end Go.Proofs.Ytiojoddcckhjdaa.Eng
set_option linter.unusedVariables false
set_option linter.unusedSimpArgs false
namespace Go.Proofs.Ytiojoddcckhjdaa.Eng
open Go Go.RowKit
set_option maxRecDepth 100000
def sh_sortF_ren : Go.Shelf.Ren := ⟨fun | 6 => 64 | 15 => 60 | 14 => 79 | 28 => 75 | 29 => 76 | 20 => 86 | 21 => 87 | 22 => 88 | 23 => 89 | 24 => 90 | 25 => 91 | 26 => 92 | 27 => 93 | 46 => 95 | 47 => 81 | 48 => 82 | 49 => 96 | 50 => 97 | 57 => 98 | n => n, fun | 22 => 48 | 24 => 24 | 25 => 73 | 3 => 3 | 39 => 68 | 0 => 0 | 53 => 84 | 55 => 86 | 4 => 4 | 46 => 76 | 45 => 75 | 50 => 81 | 5 => 5 | 9 => 9 | 66 => 88 | 70 => 92 | 76 => 99 | 77 => 100 | n => n, fun | n => n⟩
theorem sh_sortF : Go.Proofs.SlLaysF0.n6 Try.prog sh_sortF_ren := {
  mixed := by kernel_rfl
  f6 := ⟨Try.f64.name, by decide, Try.func64.trans (congrArg some (by kernel_rfl))⟩
  f14 := ⟨Try.f79.name, by decide, Try.func79.trans (congrArg some (by kernel_rfl))⟩
  f15 := Try.func60.trans (congrArg some (by kernel_rfl))
  f20 := ⟨Try.f86.name, by decide, Try.func86.trans (congrArg some (by kernel_rfl))⟩
  f21 := ⟨Try.f87.name, by decide, Try.func87.trans (congrArg some (by kernel_rfl))⟩
  f22 := ⟨Try.f88.name, by decide, Try.func88.trans (congrArg some (by kernel_rfl))⟩
  f23 := ⟨Try.f89.name, by decide, Try.func89.trans (congrArg some (by kernel_rfl))⟩
  f24 := ⟨Try.f90.name, by decide, Try.func90.trans (congrArg some (by kernel_rfl))⟩
  f25 := ⟨Try.f91.name, by decide, Try.func91.trans (congrArg some (by kernel_rfl))⟩
  f26 := ⟨Try.f92.name, by decide, Try.func92.trans (congrArg some (by kernel_rfl))⟩
  f27 := ⟨Try.f93.name, by decide, Try.func93.trans (congrArg some (by kernel_rfl))⟩
  f28 := Try.func75.trans (congrArg some (by kernel_rfl))
  f29 := Try.func76.trans (congrArg some (by kernel_rfl))
  f46 := ⟨Try.f95.name, by decide, Try.func95.trans (congrArg some (by kernel_rfl))⟩
  f47 := Try.func81.trans (congrArg some (by kernel_rfl))
  f48 := Try.func82.trans (congrArg some (by kernel_rfl))
  f49 := ⟨Try.f96.name, by decide, Try.func96.trans (congrArg some (by kernel_rfl))⟩
  f50 := ⟨Try.f97.name, by decide, Try.func97.trans (congrArg some (by kernel_rfl))⟩
  f57 := ⟨Try.f98.name, by decide, Try.func98.trans (congrArg some (by kernel_rfl))⟩
  t0 := Try.underlying0
  a0 := Try.isAgg0
  z0 := Try.sizeOf0
  v0 := Try.zeroValue0
  t3 := Try.underlying3
  a3 := Try.isAgg3
  z3 := Try.sizeOf3
  v3 := Try.zeroValue3
  t4 := Try.underlying4
  a4 := Try.isAgg4
  z4 := Try.sizeOf4
  v4 := Try.zeroValue4
  t5 := Try.underlying5
  a5 := Try.isAgg5
  z5 := Try.sizeOf5
  v5 := Try.zeroValue5
  t9 := Try.underlying9
  a9 := Try.isAgg9
  z9 := Try.sizeOf9
  v9 := Try.zeroValue9
  t22 := Try.underlying48
  a22 := Try.isAgg48
  z22 := Try.sizeOf48
  v22 := Try.zeroValue48
  t25 := Try.underlying73
  a25 := Try.isAgg73
  z25 := Try.sizeOf73
  v25 := Try.zeroValue73
  t39 := Try.underlying68
  a39 := Try.isAgg68
  z39 := Try.sizeOf68
  v39 := Try.zeroValue68
  t45 := Try.underlying75
  a45 := Try.isAgg75
  z45 := Try.sizeOf75
  v45 := Try.zeroValue75
  t46 := Try.underlying76
  a46 := Try.isAgg76
  z46 := Try.sizeOf76
  v46 := Try.zeroValue76
  t50 := Try.underlying81
  a50 := Try.isAgg81
  z50 := Try.sizeOf81
  v50 := Try.zeroValue81
  t53 := Try.underlying84
  a53 := Try.isAgg84
  z53 := Try.sizeOf84
  v53 := Try.zeroValue84
  t55 := Try.underlying86
  a55 := Try.isAgg86
  z55 := Try.sizeOf86
  v55 := Try.zeroValue86
  t66 := Try.underlying88
  a66 := Try.isAgg88
  z66 := Try.sizeOf88
  v66 := Try.zeroValue88
  t70 := Try.underlying92
  a70 := Try.isAgg92
  z70 := Try.sizeOf92
  v70 := Try.zeroValue92
  t76 := Try.underlying99
  a76 := Try.isAgg99
  z76 := Try.sizeOf99
  v76 := Try.zeroValue99
  t77 := Try.underlying100
  a77 := Try.isAgg100
  z77 := Try.sizeOf100
  v77 := Try.zeroValue100 }
abbrev Hl := { a : Int // -100000000 ≤ a ∧ a ≤ 100000000 }
instance instHl : Inhabited Hl := ⟨⟨0, by omega⟩⟩
def encH (x : Hl) : List Value := [.int .i64 (hal x.1).1, .int .i64 (hal x.1).2]
def cfH (x y : Hl) : Int := cmpF (hal x.1).1 (hal x.1).2 (hal y.1).1 (hal y.1).2
theorem ltH (x y : Hl) : ltOf cfH x y = decide (x.1 < y.1) := by
  unfold ltOf cfH
  rw [Bool.eq_iff_iff, decide_eq_true_iff, decide_eq_true_iff, cmpF_lt, hal_lt]
theorem swoH : Go.Sort.SWO (ltOf cfH) where
  irrefl x := by rw [ltH]; simp
  trans x y z h1 h2 := by rw [ltH] at *; simp at *; omega
  ntrans x y z h1 h2 := by rw [ltH] at *; simp at *; omega
theorem totH (x y : Hl) (h1 : ltOf cfH x y = false) (h2 : ltOf cfH y x = false) : x = y := by
  rw [ltH] at *; simp only [decide_eq_false_iff_not] at *
  exact Subtype.ext (by omega)
theorem Ent.grows {P : Program} {W : World} {ρ : Nm} {S : List SB} {H : Heap} {ι : Ren} {bs : List SV} {raw vs : List Value} (h : Ent W ρ S H ι bs raw vs) {f : FuncId} {S' : List SB} {v : SV} (hf : flatS v = true) (hr : RunsS P f bs S v S') :
    Calls P f ⟨vs⟩ W fun e W' => e = .returned (toV v) ∧ ∃ q os', W' = Go.Sort.grow (W.drewN q) os' := by
  obtain ⟨v', H', ρ', h1, h2, h3⟩ := hr H ρ raw h.den h.dom h.args
  have h2 := h2.toV_eq hf
  subst h2
  refine (h1.2 W ι W vs h.rel h.vals).mono fun e W' ⟨v, v', H', ι', he, ⟨hv, _⟩, hrel, hh, _⟩ => ?_
  subst he; subst hv
  have hfl : flatV (toV v) = true := (toV_rel hf (fun _ => none)).flat hf
  rw [hrel.flat_eq hfl]
  exact ⟨rfl, grow_of_rel hh⟩
theorem ok_asc1 : SpecOk Try.prog 65 s_cmp := by
  intro args S h; unfold s_cmp at h ⊢; (split at h <;> first | exact False.elim h | skip)
  dsimp only at h ⊢
  rename_i p q p' q'
  refine funW tabOk (E := [(36, s_cmp)]) ⟨ok_compare, trivial⟩ [] (k := 0) (fn := Try.f65) rfl rfl rfl rfl rfl rfl ?_
  (repeat' ((try (conv => whnf)); first | (with_reducible first | refine And.intro ?_ ?_ | refine WX.of ?_) | exact zc | ((with_reducible refine VC.mk ?_); exact zw) | (with_reducible first | refine splitT ?_ | refine splitF ?_) | ((with_reducible refine splitM.mk (fun hsm => ?_) (fun hsm => ?_)) <;> (try exact zx)) | ((with_reducible refine splitB.mk (fun h => ?_) (fun h => ?_)) <;> (try simp only [zs, ne_eq] at h) <;> (try simp (disch := omega) only [w64] at h) <;> (try exact zx)) | (with_reducible intro hz; (try exact absurd hz (Nat.succ_ne_zero _)))))
theorem cmpLaysH (blk off size : Nat) (w : World) : CmpLays Try.prog 65 #[] encH 2 cfH blk off size w := fun m os dk hs x y => by
  generalize sortWorldK encH 2 w blk off m dk os = W
  have h := (((ent_nil W trivial).agg (xs := [.int .i64 (hal x.1).1, .int .i64 (hal x.1).2]) rfl).agg (xs := [.int .i64 (hal y.1).1, .int .i64 (hal y.1).2]) rfl).grows (v := .int .i64 (cfH x y)) rfl (ok_asc1 _ _ ⟨hal_sm (by omega), hal_sm (by omega)⟩)
  exact h
/-- The cells of halves, flat. -/
theorem flatH (D : List Hl) : Go.Sort.flatK encH 2 D.toArray = (((D.map fun x => hal x.1).flatMap (ET.enc (.prod (.int .i64) (.int .i64)))).map toV).toArray := by
  apply Go.Sort.ext_get!
  · rw [Go.Sort.size_flatK]
    have := flat_len (e := .prod (.int .i64) (.int .i64)) (D.map fun x => hal x.1)
    simp only [List.size_toArray, List.length_map] at this ⊢
    rw [this]; rfl
  · intro t ht
    rw [Go.Sort.size_flatK] at ht
    rw [Go.Sort.get_flatK _ _ _ _ ht]
    simp only [List.size_toArray] at ht
    have hq : t / 2 < D.length := by omega
    obtain ⟨X, Y, e1, e2, _⟩ := flat_at (e := .prod (.int .i64) (.int .i64)) (l := D.map fun x => hal x.1) (i := t / 2) (a := hal D[t / 2].1) (by simp [hq])
    rw [e2]
    have e1 : X.length = t / 2 * 2 := e1
    have hd : (D.toArray[t / 2]! : Hl) = D[t / 2] := by simp [hq]
    rw [hd]
    have key : ∀ v : Value, (((X ++ ET.enc (.prod (.int .i64) (.int .i64)) (hal D[t / 2].1) ++ Y).map toV)[t]? = some v) → ((((X ++ ET.enc (.prod (.int .i64) (.int .i64)) (hal D[t / 2].1) ++ Y).map toV).toArray)[t]! : Value) = v := fun v hv => by
      simp only [getElem!_def, List.getElem?_toArray, hv]
    symm
    rcases Nat.mod_two_eq_zero_or_one t with h | h
    · rw [h]
      refine key _ ?_
      rw [List.getElem?_map, List.append_assoc, List.getElem?_append_right (by omega), show t - X.length = 0 by omega]
      rfl
    · rw [h]
      refine key _ ?_
      rw [List.getElem?_map, List.append_assoc, List.getElem?_append_right (by omega), show t - X.length = 1 by omega]
      rfl
/-- A list of halves, sorted. -/
def s_srtF (L : List Int) (g : Nat) : Spec := fun args S => match args, S with
  | [.sl 0 0 n x, .fn g' []], [.arr (.prod (.int .i64) (.int .i64)) l 2 true] => ⟨g' = g ∧ l = L.map hal ∧ n = L.length ∧ 1 ≤ n ∧ n ≤ 1048576 ∧ ∀ a ∈ L, -100000000 ≤ a ∧ a ≤ 100000000, .tup [], [.arr (.prod (.int .i64) (.int .i64)) ((srt L).map hal) 2 true]⟩
  | _, _ => noSpec
theorem mergeH {L : List Int} {D D' : List Hl} (h : D.map (fun x => x.1) = L) (hp : D' = D.mergeSort (fun x y => !(ltOf cfH) y x)) : D'.map (fun x => x.1) = srt L := by
  subst hp
  refine srt_of ?_ ?_
  · rw [← h]; exact (List.mergeSort_perm _ _).map _
  · have hs := List.pairwise_mergeSort (le := fun x y : Hl => !(ltOf cfH) y x) (fun a b c h1 h2 => by simp only [ltH, Bool.not_eq_true', decide_eq_false_iff_not] at *; omega) (fun a b => by simp only [ltH, Bool.or_eq_true, Bool.not_eq_true', decide_eq_false_iff_not]; omega) D
    rw [List.pairwise_iff_getElem] at hs
    intro i j x y hij hj hx hy
    rw [List.length_map] at hj
    rw [List.getElem?_map] at hx hy
    obtain ⟨u, hu, rfl⟩ := Option.map_eq_some_iff.1 hx
    obtain ⟨v, hv, rfl⟩ := Option.map_eq_some_iff.1 hy
    obtain ⟨k1, rfl⟩ := List.getElem?_eq_some_iff.1 hu
    obtain ⟨k2, rfl⟩ := List.getElem?_eq_some_iff.1 hv
    have := hs i j k1 k2 hij
    rw [ltH] at this
    simp only [Bool.not_eq_true', decide_eq_false_iff_not] at this
    omega
theorem hl_of {L : List Int} (hb : ∀ a ∈ L, -100000000 ≤ a ∧ a ≤ 100000000) : ∃ D : List Hl, D.map (fun x => x.1) = L := ⟨L.attach.map fun a => ⟨a.1, hb a.1 a.2⟩, by simp⟩
theorem ok_srtF (L : List Int) : SpecOk Try.prog 64 (s_srtF L 65) := by
  intro args S h; unfold s_srtF at h ⊢; (split at h <;> first | exact False.elim h | skip)
  dsimp only at h ⊢
  rename_i n x g l
  obtain ⟨rfl, rfl, rfl, h1, h2, hb⟩ := h
  intro H ρ args' hD hd ha
  obtain ⟨v1, r1, rfl, k1, ha⟩ := ha.inv_cons
  obtain ⟨v2, r2, rfl, k2, ha⟩ := ha.inv_cons
  rw [ha.inv_nil]
  have hv2 : v2 = .func (.func 65) #[] ⟨[]⟩ := by
    cases k2 with | fn _ _ ys hl _ => rw [List.eq_nil_of_length_eq_zero (l := ys) (by simpa using hl.symm)]
  obtain ⟨id, w, kb, q1, q2, q3⟩ := hD.blk 0 _ rfl rfl
  obtain ⟨rfl, e2, e3, e4, e5⟩ := q3
  have hv1 : v1 = .slice (some ⟨id, 0, none⟩) L.length (L.length + x + 1) := by
    cases k1 with | sl _ _ _ _ id' w' hb' => rw [q1] at hb'; obtain ⟨rfl, rfl⟩ := Prod.mk.inj (Option.some.inj hb'); simp
  have e3 := e3 rfl
  have hc : kb.cells = ((L.map hal).flatMap (ET.enc (.prod (.int .i64) (.int .i64)))).map toV := LDR.fun2 e5 (map_toV (flat_all _) ρ)
  obtain ⟨D, hDL⟩ := hl_of hb
  have hDh : (D.map fun x => hal x.1) = L.map hal := by
    have : D.map (fun x => hal x.1) = (D.map (fun x => x.1)).map hal := by rw [List.map_map]; rfl
    rw [this, hDL]
  have hDlen : D.length = L.length := by rw [← hDL, List.length_map]
  -- sorted
  have hM := mergeH hDL rfl
  generalize hD' : D.mergeSort (fun x y => !(ltOf cfH) y x) = D' at *
  have hMh : (D'.map fun x => hal x.1) = (srt L).map hal := by
    have : D'.map (fun x => hal x.1) = (D'.map (fun x => x.1)).map hal := by rw [List.map_map]; rfl
    rw [this, hM]
  have hlen : (((srt L).map hal).flatMap (ET.enc (.prod (.int .i64) (.int .i64)))).length = ((L.map hal).flatMap (ET.enc (.prod (.int .i64) (.int .i64)))).length := by
    rw [flat_len, flat_len, List.length_map, List.length_map, srt_len]
  have hrun := Runs_put (P := Try.prog) (f := 64) (H := H) (id := id) (n := L.length) (c := L.length + x + 1) (b := kb) (more := [.func (.func 65) #[] ⟨[]⟩]) q2 (by omega) (by omega) e3 e4
    (cs := (((srt L).map hal).flatMap (ET.enc (.prod (.int .i64) (.int .i64)))).map toV) (by rw [hc, List.length_map, List.length_map, hlen]) ((map_toV (flat_all _) ρ).flat (flat_all _)) ((map_toV (flat_all _) ρ).one (flat_all _)) ?_ ?_ ?_
  · rw [hv1, hv2]
    refine ⟨_, _, ρ, hrun, .tup _ _ rfl (fun i v v' h => by simp at h), Step.put hD hd q1 fun _ => ⟨_, rfl, rfl, e2, fun _ => e3, e4, map_toV (flat_all _) ρ⟩⟩
  · exact ⟨Try.f64, rfl, rfl, rfl⟩
  · intro ι ys hy
    obtain ⟨v', r, rfl, h3, h4⟩ := hy.inv_cons
    have := h4.1
    rw [List.eq_nil_of_length_eq_zero (l := r) (by simpa using this.symm)]
    cases h3 with | func _ _ zs hl _ => rw [List.eq_nil_of_length_eq_zero (l := zs) (by simpa using hl.symm)]
  · intro W blk off cap hcell hlt
    have hH : Go.Sort.HoldsK encH 2 W blk off D.toArray := fun j hj => by
      rw [flatH, hDh, ← hc] at hj ⊢
      have hj' : j < kb.cells.length := by simpa using hj
      have := hcell j kb.cells[j] (by simp [hj'])
      have e : (kb.cells.toArray[j]! : Value) = kb.cells[j] := by simp [hj']
      rw [e]
      exact this
    have hz : D.toArray.size = L.length := by simpa using hDlen
    have hk := AnyQ.slices_SortFunc_total sh_sortF 2 Try.isAgg24 Try.sizeOf24 encH (fun _ => rfl) (fun x v hv => by simp [encH] at hv; rcases hv with rfl | rfl <;> rfl) cfH swoH 65 #[] blk off cap D.toArray W (enters_of Try.func65 (by kernel_rfl) rfl) (cmpLaysH blk off _ W) hH hlt (by rw [hz]; omega) totH
    rw [hz] at hk
    refine hk.mono fun e w' ⟨he, m, os, hw⟩ => ⟨he, m, os, ?_⟩
    rw [hw]
    unfold sortWorldK Go.Sort.putRowK
    have hD2 : D.toArray.toList.mergeSort (fun x y => !(ltOf cfH) y x) = D' := hD'
    rw [hD2, flatH, hMh]
    congr 1
    have hH2 : Go.Sort.Holds (fun v : Value => v) W blk off kb.cells.toArray := fun j hj => by
      have := hH j (by rw [flatH, hDh, ← hc]; exact hj)
      rw [flatH, hDh, ← hc] at this
      exact this
    have := Go.Lib.putRow_eq_setCells (fun v : Value => v) W blk off kb.cells.toArray ((((srt L).map hal).flatMap (ET.enc (.prod (.int .i64) (.int .i64)))).map toV) m hH2 (by rw [hc]; simp only [List.size_toArray, List.length_map]; exact hlen)
    rw [List.map_id'] at this
    exact this
end Go.Proofs.Ytiojoddcckhjdaa.Eng
set_option linter.unusedVariables false
set_option linter.unusedSimpArgs false
namespace Go.Proofs.Ytiojoddcckhjdaa.Eng
open Go Go.RowKit
set_option maxRecDepth 100000
def s_cloneI : Spec := fun args S => match args, S with
  | [.sl 0 s n x], [.arr (.int .i64) l 1 wr] => ⟨s + n ≤ l.length ∧ n ≤ 1048576, .sl 1 0 n 0, [.arr (.int .i64) l 1 wr, .arr (.int .i64) (seg l s n) 1 true]⟩
  | _, _ => noSpec
theorem ok_cloneI : SpecOk Try.prog 35 s_cloneI := by
  intro args S h; unfold s_cloneI at h ⊢; (split at h <;> first | exact False.elim h | skip)
  dsimp only at h ⊢
  rename_i s n x l wr
  obtain ⟨h1, h2⟩ := h
  refine funW tabOk (E := []) trivial [] (k := 1) (fn := Try.f35) rfl rfl rfl rfl rfl rfl ?_
  (repeat' ((try (conv => whnf)); first | (with_reducible first | refine And.intro ?_ ?_ | refine WX.of ?_) | exact zc | ((with_reducible refine VC.mk ?_); exact zw) | (with_reducible first | refine splitT ?_ | refine splitF ?_) | ((with_reducible refine splitM.mk (fun hsm => ?_) (fun hsm => ?_)) <;> (try exact zx)) | ((with_reducible refine splitB.mk (fun h => ?_) (fun h => ?_)) <;> (try simp only [zs, ne_eq] at h) <;> (try simp (disch := omega) only [w64] at h) <;> (try exact zx)) | (with_reducible intro hz; (try exact absurd hz (Nat.succ_ne_zero _)))))
  subst hz
  exact ⟨by rw [show seg l s 0 = [] from by simp [seg]]; rfl⟩
def s_cloneF : Spec := fun args S => match args, S with
  | [.sl 0 s n x], [.arr (.prod (.int .i64) (.int .i64)) l 2 wr] => ⟨s + n ≤ l.length ∧ n ≤ 1048576, .sl 1 0 n 0, [.arr (.prod (.int .i64) (.int .i64)) l 2 wr, .arr (.prod (.int .i64) (.int .i64)) (seg l s n) 2 true]⟩
  | _, _ => noSpec
theorem ok_cloneF : SpecOk Try.prog 63 s_cloneF := by
  intro args S h; unfold s_cloneF at h ⊢; (split at h <;> first | exact False.elim h | skip)
  dsimp only at h ⊢
  rename_i s n x l wr
  obtain ⟨h1, h2⟩ := h
  refine funW tabOk (E := []) trivial [] (k := 1) (fn := Try.f63) rfl rfl rfl rfl rfl rfl ?_
  (repeat' ((try (conv => whnf)); first | (with_reducible first | refine And.intro ?_ ?_ | refine WX.of ?_) | exact zc | ((with_reducible refine VC.mk ?_); exact zw) | (with_reducible first | refine splitT ?_ | refine splitF ?_) | ((with_reducible refine splitM.mk (fun hsm => ?_) (fun hsm => ?_)) <;> (try exact zx)) | ((with_reducible refine splitB.mk (fun h => ?_) (fun h => ?_)) <;> (try simp only [zs, ne_eq] at h) <;> (try simp (disch := omega) only [w64] at h) <;> (try exact zx)) | (with_reducible intro hz; (try exact absurd hz (Nat.succ_ne_zero _)))))
  subst hz
  exact ⟨by rw [show seg l s 0 = [] from by simp [seg]]; rfl⟩
def s_asc (L : List Int) : Spec := fun args S => match args, S with
  | [.sl 0 s n x], [.arr (.prod (.int .i64) (.int .i64)) l 2 wr] => ⟨(s + n ≤ l.length ∧ seg l s n = L.map hal) ∧ (n = L.length ∧ 1 ≤ n ∧ n ≤ 1048576) ∧ ∀ a ∈ L, -100000000 ≤ a ∧ a ≤ 100000000, .sl 1 0 n 0, [.arr (.prod (.int .i64) (.int .i64)) l 2 wr, .arr (.prod (.int .i64) (.int .i64)) ((srt L).map hal) 2 true]⟩
  | _, _ => noSpec
theorem ok_asc (L : List Int) : SpecOk Try.prog 52 (s_asc L) := by
  intro args S h; unfold s_asc at h ⊢; (split at h <;> first | exact False.elim h | skip)
  dsimp only at h ⊢
  rename_i s n x l wr
  obtain ⟨⟨h1, h2⟩, ⟨h3, h4, h5⟩, hb⟩ := h
  have hq : (seg l s n).length = n := seg_len h1
  refine funW tabOk (E := [(63, s_cloneF), (64, (s_srtF L 65))]) ⟨ok_cloneF, ok_srtF L, trivial⟩ [] (k := 1) (fn := Try.f52) rfl rfl rfl rfl rfl rfl ?_
  (repeat' ((try (conv => whnf)); first | (with_reducible first | refine And.intro ?_ ?_ | refine WX.of ?_) | exact zc | ((with_reducible refine VC.mk ?_); exact zw) | ((with_reducible refine VC.mk ?_); exact ⟨rfl, h2, h3, h4, h5, hb⟩) | (with_reducible first | refine splitT ?_ | refine splitF ?_) | ((with_reducible refine splitM.mk (fun hsm => ?_) (fun hsm => ?_)) <;> (try exact zx)) | ((with_reducible refine splitB.mk (fun h => ?_) (fun h => ?_)) <;> (try simp only [zs, ne_eq] at h) <;> (try simp (disch := omega) only [w64] at h) <;> (try exact zx)) | (with_reducible intro hz; (try exact absurd hz (Nat.succ_ne_zero _)))))
/-- The median of halves: a quarter of twice it. -/
theorem red_hal (x : Int) : redP (2 * x) 4 = (hal x).1 ∧ redQ (2 * x) 4 = (hal x).2 := by
  have := red_eq (p := 2 * x) (q := 4) (p' := x) (q' := 2) (by omega) (by omega) (by omega)
  exact this
theorem tol_red {p q p' q' : Int} (hq : 0 < q) (hq' : 0 < q') (h : p * q' = p' * q) (ho : redOk p' q' = true) : tolP p q = redP p' q' ∧ tolQ p q = redQ p' q' ∧ redOk p q = true := by
  obtain ⟨e1, e2⟩ := red_eq hq hq' h
  have : redOk p q = true := by unfold redOk at ho ⊢; rw [e1, e2]; exact ho
  unfold tolP tolQ
  rw [if_pos this, if_pos this]
  exact ⟨e1, e2, this⟩
theorem hal_add {u v : Int} (h : -1000000000 ≤ u + v ∧ u + v ≤ 1000000000) : tolP ((hal u).1 * (hal v).2 + (hal v).1 * (hal u).2) ((hal u).2 * (hal v).2) = (hal (u + v)).1 ∧ tolQ ((hal u).1 * (hal v).2 + (hal v).1 * (hal u).2) ((hal u).2 * (hal v).2) = (hal (u + v)).2 ∧ redOk ((hal u).1 * (hal v).2 + (hal v).1 * (hal u).2) ((hal u).2 * (hal v).2) = true := by
  have h1 := hal_x u
  have h2 := hal_x v
  exact tol_red (p' := u + v) (q' := 2) (Int.mul_pos (hal_q u) (hal_q v)) (by omega) (by grind) (redOk_small h (by omega))
theorem hal_div {x : Int} (h : -1000000000 ≤ x ∧ x ≤ 1000000000) : divP (hal x).1 (hal x).2 2 1 = redP x 4 ∧ divQ (hal x).1 (hal x).2 2 1 = redQ x 4 ∧ divOk (hal x).1 (hal x).2 2 1 = true := by
  have h1 := hal_x x
  have := tol_red (p := (hal x).1 * 1) (q := (hal x).2 * 2) (p' := x) (q' := 4) (by have := hal_q x; omega) (by omega) (by grind) (redOk_small h (by omega))
  unfold divP divQ divOk
  rw [if_neg (by omega), if_neg (by omega)]
  refine ⟨this.1, this.2.1, ?_⟩
  rw [this.2.2]; rfl
def s_mdn (L : List Int) : Spec := fun args S => match args, S with
  | [.ptr 0 0 0, .sl 1 s n x], [.arr .bool [bad] 0 true, .arr (.prod (.int .i64) (.int .i64)) l 2 wr] => ⟨(s + n ≤ l.length ∧ seg l s n = L.map hal) ∧ (n = L.length ∧ 1 ≤ n ∧ n ≤ 1048576) ∧ ∀ a ∈ L, -100000000 ≤ a ∧ a ≤ 100000000, .agg [.int .i64 (redP (twc L) 4), .int .i64 (redQ (twc L) 4)], [.arr .bool [bad] 0 true, .arr (.prod (.int .i64) (.int .i64)) l 2 wr]⟩
  | _, _ => noSpec
theorem ok_mdn (L : List Int) : SpecOk Try.prog 31 (s_mdn L) := by
  intro args S h; unfold s_mdn at h ⊢; (split at h <;> first | exact False.elim h | skip)
  dsimp only at h ⊢
  rename_i s n x bad l wr
  obtain ⟨⟨h1, h2⟩, ⟨h3, h4, h5⟩, hb⟩ := h
  have hs : (srt L).length = n := by rw [srt_len, h3]
  have hsm : ((srt L).map hal).length = n := by rw [List.length_map, hs]
  have hbs : ∀ (j : Nat) (a : Int), (srt L)[j]? = some a → -100000000 ≤ a ∧ a ≤ 100000000 := fun j a ha => hb a ((srt_perm L).mem_iff.1 (List.mem_of_getElem? ha))
  obtain ⟨v, hv⟩ := get_some (l := srt L) (i := n / 2) (by omega)
  have hvh : ((srt L).map hal)[n / 2]? = some (hal v) := by rw [List.getElem?_map, hv]; rfl
  have hbv := hbs _ _ hv
  have hi2 : IntKind.i64.wrap ((n : Int).tdiv 2) = ((n / 2 : Nat) : Int) := by
    rw [Int.tdiv_eq_ediv_of_nonneg (by omega), w64 (by omega)]; omega
  have hm2 : (n : Int).tmod 2 = ((n % 2 : Nat) : Int) := by
    rw [Int.tmod_eq_emod_of_nonneg (by omega)]; omega
  by_cases ho : n % 2 = 1
  · have e : twc L = 2 * v := by
      unfold twc
      rw [← h3, show (n - 1) / 2 = n / 2 by omega, hv]
      show v + v = _
      omega
    rw [e, (red_hal v).1, (red_hal v).2]
    have hk : decide (IntKind.i64.wrap ((n : Int).tmod 2) = 1) = true := by rw [hm2, ho]; decide
    refine funW tabOk (E := [(52, (s_asc L))]) ⟨ok_asc L, trivial⟩ [] (k := 2) (fn := Try.f31) rfl rfl rfl rfl rfl rfl ?_
    (repeat' ((try (conv => whnf)); first | (with_reducible first | refine And.intro ?_ ?_ | refine WX.of ?_) | exact zc | ((with_reducible refine VC.mk ?_); exact zw) | refine atL_q hvh (by rw [hi2]; omega) ?_ | ((with_reducible refine VC.mk ?_); exact ⟨by rw [hi2]; omega, by rw [hi2]; omega⟩) | ((with_reducible refine splitT_of ?_ ?_); (focus (simp only [hk, Bool.not_true, Bool.not_false, decide_true, decide_false]; done))) | ((with_reducible refine splitF_of ?_ ?_); (focus (simp only [hk, Bool.not_true, Bool.not_false, decide_true, decide_false]; done))) | ((with_reducible refine VC.mk ?_); exact ⟨⟨h1, h2⟩, ⟨h3, h4, h5⟩, hb⟩) | (with_reducible first | refine splitT ?_ | refine splitF ?_) | ((with_reducible refine splitM.mk (fun hsm => ?_) (fun hsm => ?_)) <;> (try exact zx)) | ((with_reducible refine splitB.mk (fun h => ?_) (fun h => ?_)) <;> (try simp only [zs, ne_eq] at h) <;> (try simp (disch := omega) only [w64] at h) <;> (try exact zx)) | (with_reducible intro hz; (try exact absurd hz (Nat.succ_ne_zero _)))))
  · obtain ⟨u, hu⟩ := get_some (l := srt L) (i := n / 2 - 1) (by omega)
    have huh : ((srt L).map hal)[n / 2 - 1]? = some (hal u) := by rw [List.getElem?_map, hu]; rfl
    have hbu := hbs _ _ hu
    have e : twc L = u + v := by
      unfold twc
      rw [← h3, show (n - 1) / 2 = n / 2 - 1 by omega, hu, hv]; rfl
    have hk : decide (IntKind.i64.wrap ((n : Int).tmod 2) = 1) = false := by rw [hm2, show n % 2 = 0 by omega]; decide
    have hi3 : IntKind.i64.wrap (IntKind.i64.wrap ((n : Int).tdiv 2) - 1) = ((n / 2 - 1 : Nat) : Int) := by
      rw [hi2, w64 (by omega)]; omega
    have ha := hal_add (u := u) (v := v) (by omega)
    have hd := hal_div (x := u + v) (by omega)
    have hmu := hal_sm (a := u) (by omega)
    have hmv := hal_sm (a := v) (by omega)
    have hms := hal_sm (a := u + v) (by omega)
    rw [e]
    refine funW tabOk (E := [(52, (s_asc L)), (54, s_add), (38, s_num), (53, s_div)]) ⟨ok_asc L, ok_add, ok_num, ok_div, trivial⟩ [] (k := 2) (fn := Try.f31) rfl rfl rfl rfl rfl rfl ?_
    (repeat' ((try (conv => whnf)); first | (with_reducible first | refine And.intro ?_ ?_ | refine WX.of ?_) | exact zc | ((with_reducible refine VC.mk ?_); exact zw) | refine atL_q hvh (by rw [hi2]; omega) ?_ | refine atL_q huh (by rw [hi3]; omega) ?_ | ((with_reducible refine VC.mk ?_); exact ⟨by rw [hi2]; omega, by rw [hi2]; omega⟩) | ((with_reducible refine VC.mk ?_); exact ⟨by rw [hi3]; omega, by rw [hi3]; omega⟩) | ((with_reducible refine splitT_of ?_ ?_); (focus (simp only [hk, Bool.not_true, Bool.not_false, decide_true, decide_false]; done))) | ((with_reducible refine splitF_of ?_ ?_); (focus (simp only [hk, Bool.not_true, Bool.not_false, decide_true, decide_false]; done))) | ((with_reducible refine VC.mk ?_); exact ⟨⟨h1, h2⟩, ⟨h3, h4, h5⟩, hb⟩) | ((with_reducible refine VC.mk ?_); exact ⟨rfl, hmu, hmv⟩) | ((with_reducible refine VC.mk ?_); exact ⟨rfl, by rw [ha.1, ha.2.1]; exact hms, smF_1 (by omega)⟩) | (with_reducible first | refine splitT ?_ | refine splitF ?_) | ((with_reducible refine splitM.mk (fun hsm => ?_) (fun hsm => ?_)) <;> (try exact zx)) | ((with_reducible refine splitB.mk (fun h => ?_) (fun h => ?_)) <;> (try simp only [zs, ne_eq] at h) <;> (try simp (disch := omega) only [w64] at h) <;> (try exact zx)) | (with_reducible intro hz; (try exact absurd hz (Nat.succ_ne_zero _)))))
    · exact ⟨by rw [ha.1, ha.2.1, hd.1, hd.2.1]⟩
    · exact ⟨by rw [ha.1, ha.2.1, ha.2.2, hd.2.2]; simp⟩
/-- MedianOf. -/
theorem ok_MedianOfI : SpecOk Try.prog 13 s_med := by
  intro args S h; unfold s_med at h ⊢; (split at h <;> first | exact False.elim h | skip)
  dsimp only at h ⊢
  rename_i s n x l wr
  obtain ⟨h1, h2⟩ := h
  have hL := seg_len h1
  cases hA : areB (seg l s n) with
  | false =>
    have hc : areCode (seg l s n) = 2 := by unfold areCode; rw [hA]; rfl
    have hp : medP (seg l s n) = 0 := by unfold medP; rw [hA]; rfl
    have hq : medQ (seg l s n) = 0 := by unfold medQ; rw [hA]; rfl
    rw [hc, hp, hq]
    refine funW tabOk (E := [(24, s_are)]) ⟨ok_areReadings, trivial⟩ [] (k := 1) (fn := Try.f13) rfl rfl rfl rfl rfl rfl ?_
    (repeat' ((try (conv => whnf)); first | (with_reducible first | refine And.intro ?_ ?_ | refine WX.of ?_) | exact zc | ((with_reducible refine VC.mk ?_); exact zw) | ((with_reducible refine splitT_of ?_ ?_); (focus (simp only [hA, Bool.not_true, Bool.not_false, decide_true, decide_false]; done))) | ((with_reducible refine splitF_of ?_ ?_); (focus (simp only [hA, Bool.not_true, Bool.not_false, decide_true, decide_false]; done))) | (with_reducible first | refine splitT ?_ | refine splitF ?_) | ((with_reducible refine splitM.mk (fun hsm => ?_) (fun hsm => ?_)) <;> (try exact zx)) | ((with_reducible refine splitB.mk (fun h => ?_) (fun h => ?_)) <;> (try simp only [zs, ne_eq] at h) <;> (try simp (disch := omega) only [w64] at h) <;> (try exact zx)) | (with_reducible intro hz; (try exact absurd hz (Nat.succ_ne_zero _)))))
  | true =>
    have hc : areCode (seg l s n) = 0 := code_0.2 hA
    have hp : medP (seg l s n) = redP (twc (seg l s n)) 2 := by unfold medP; rw [if_pos hA]
    have hq : medQ (seg l s n) = redQ (twc (seg l s n)) 2 := by unfold medQ; rw [if_pos hA]
    have hn := are_len hA
    rw [hL] at hn
    have hb2 : ∀ a ∈ dbl (seg l s n), -100000000 ≤ a ∧ a ≤ 100000000 := fun a ha => by
      obtain ⟨b, hb, rfl⟩ := List.mem_map.1 ha
      obtain ⟨j, hj⟩ := List.getElem?_of_mem hb
      have := are_all hA hj; omega
    have hfl : (frs (seg l s n)).length = n := by rw [frs_len, hL]
    have hsf : seg (frs (seg l s n)) 0 n = (dbl (seg l s n)).map hal := by rw [seg_full hfl, frs_hal]; rfl
    have e4 := red_hal (twc (seg l s n))
    have e2 : twc (dbl (seg l s n)) = _ := twc_2 (seg l s n)
    rw [hc, hp, hq]
    refine funW tabOk (E := [(24, s_are), (32, s_fracs), (31, (s_mdn (dbl (seg l s n)))), (30, s_one)]) ⟨ok_areReadings, ok_fracs, ok_mdn _, ok_one, trivial⟩ [] (k := 1) (fn := Try.f13) rfl rfl rfl rfl rfl rfl ?_
    (repeat' ((try (conv => whnf)); first | (with_reducible first | refine And.intro ?_ ?_ | refine WX.of ?_) | exact zc | ((with_reducible refine VC.mk ?_); exact zw) | ((with_reducible refine splitT_of ?_ ?_); (focus (simp only [hA, Bool.not_true, Bool.not_false, decide_true, decide_false]; done))) | ((with_reducible refine splitF_of ?_ ?_); (focus (simp only [hA, Bool.not_true, Bool.not_false, decide_true, decide_false]; done))) | ((with_reducible refine VC.mk ?_); exact ⟨⟨by omega, hsf⟩, ⟨by rw [dbl_len, hL], by omega, h2⟩, hb2⟩) | (with_reducible first | refine splitT ?_ | refine splitF ?_) | ((with_reducible refine splitM.mk (fun hsm => ?_) (fun hsm => ?_)) <;> (try exact zx)) | ((with_reducible refine splitB.mk (fun h => ?_) (fun h => ?_)) <;> (try simp only [zs, ne_eq] at h) <;> (try simp (disch := omega) only [w64] at h) <;> (try exact zx)) | (with_reducible intro hz; (try exact absurd hz (Nat.succ_ne_zero _)))))
    all_goals exact ⟨by rw [e2, e4.1, e4.2]; rfl⟩
end Go.Proofs.Ytiojoddcckhjdaa.Eng
set_option linter.unusedVariables false
set_option linter.unusedSimpArgs false
namespace Go.Proofs.Ytiojoddcckhjdaa.Eng
open Go Go.RowKit
set_option maxRecDepth 100000
theorem law_medianOf {c : Bool} {n : Nat} {l : List Int} (hn : n ≤ l.length) (hc : c = true → l = []) (ho : ∀ y ∈ l, ET.Ok (.int .i64) y) : RunsS Try.prog 4 [.opt c 0 n 0] [.arrO (.int .i64) l 1] (.bool true) [.arrO (.int .i64) l 1] := by
  have hL : (seg l 0 n).length = n := seg_len (by omega)
  refine funW tabOk (E := [(8, s_toInt64S), (12, s_med), (13, s_med), (11, s_eqInt64S), (10, s_eqFrac)]) ⟨ok_toInt64S, ok_MedianOfS, ok_MedianOfI, ok_eqInt64S, ok_eqFrac, trivial⟩ [] (k := 1) (fn := Try.f4) rfl rfl rfl rfl rfl rfl ?_
  (repeat' ((try (conv => whnf)); first | (with_reducible first | refine And.intro ?_ ?_ | refine WX.of ?_) | exact zc | ((with_reducible refine VC.mk ?_); exact zw) | exact ⟨⟨hn, hc, by omega⟩⟩ | (with_reducible first | refine splitT ?_ | refine splitF ?_) | ((with_reducible refine splitM.mk (fun hsm => ?_) (fun hsm => ?_)) <;> (try exact zx)) | ((with_reducible refine splitB.mk (fun h => ?_) (fun h => ?_)) <;> (try simp only [zs, ne_eq] at h) <;> (try simp (disch := omega) only [w64] at h) <;> (try exact zx)) | (with_reducible intro hz; (try exact absurd hz (Nat.succ_ne_zero _)))))
end Go.Proofs.Ytiojoddcckhjdaa.Eng
set_option linter.unusedVariables false
set_option linter.unusedSimpArgs false
namespace Go.Proofs.Ytiojoddcckhjdaa.Eng
open Go Go.RowKit
set_option maxRecDepth 100000
/-- Two times the distances from the median. -/
def dst (L : List Int) : List Int := L.map fun a => ((2 * a - twc L).natAbs : Int)
theorem dst_len (L : List Int) : (dst L).length = L.length := by simp [dst]
theorem dst_get {L : List Int} {i : Nat} {a : Int} (h : L[i]? = some a) : (dst L)[i]? = some ((2 * a - twc L).natAbs : Int) := by unfold dst; rw [List.getElem?_map, h]; rfl
theorem hal_neg (u : Int) : hal (-u) = (-(hal u).1, (hal u).2) := by
  have e1 := red_pos (p := u) (q := 2) (by omega)
  have e2 := red_pos (p := -u) (q := 2) (by omega)
  unfold hal
  have hg : redG (-u) 2 = redG u 2 := by simp [redG]
  rw [e1.1, e1.2, e2.1, e2.2, hg]
  have := Int.neg_ediv_of_dvd (a := u) (b := redG u 2) (Int.gcd_dvd_left ..)
  rw [this]
theorem hal_abs (u : Int) : hal (u.natAbs : Int) = (((hal u).1.natAbs : Int), (hal u).2) := by
  have hq := hal_q u
  have hx := hal_x u
  by_cases h : 0 ≤ u
  · have e : (u.natAbs : Int) = u := by omega
    have : 0 ≤ u * (hal u).2 := Int.mul_nonneg h (by omega)
    rw [e]
    have e2 : ((hal u).1.natAbs : Int) = (hal u).1 := by omega
    rw [e2]
  · have e : (u.natAbs : Int) = -u := by omega
    have : 0 ≤ (-u) * (hal u).2 := Int.mul_nonneg (by omega) (by omega)
    rw [Int.neg_mul] at this
    rw [e, hal_neg]
    have e2 : ((hal u).1.natAbs : Int) = -(hal u).1 := by omega
    rw [e2]
theorem hal_sub {a t : Int} (h : -1000000000 ≤ 2 * a - t ∧ 2 * a - t ≤ 1000000000) : tolP (a * (hal t).2 - (hal t).1 * 1) (1 * (hal t).2) = (hal (2 * a - t)).1 ∧ tolQ (a * (hal t).2 - (hal t).1 * 1) (1 * (hal t).2) = (hal (2 * a - t)).2 ∧ redOk (a * (hal t).2 - (hal t).1 * 1) (1 * (hal t).2) = true := by
  have h1 := hal_x t
  exact tol_red (p' := 2 * a - t) (q' := 2) (by have := hal_q t; omega) (by omega) (by grind) (redOk_small h (by omega))
theorem twc_bd {L : List Int} {B : Int} (hb : ∀ a ∈ L, -B ≤ a ∧ a ≤ B) (h1 : 1 ≤ L.length) : -(2 * B) ≤ twc L ∧ twc L ≤ 2 * B := by
  have hs : (srt L).length = L.length := srt_len L
  obtain ⟨u, hu⟩ := get_some (l := srt L) (i := (L.length - 1) / 2) (by omega)
  obtain ⟨v, hv⟩ := get_some (l := srt L) (i := L.length / 2) (by omega)
  have hbu := hb u ((srt_perm L).mem_iff.1 (List.mem_of_getElem? hu))
  have hbv := hb v ((srt_perm L).mem_iff.1 (List.mem_of_getElem? hv))
  have e : twc L = u + v := by unfold twc; rw [hu, hv]; rfl
  omega
theorem dst_b {L : List Int} {B : Int} (hb : ∀ a ∈ L, -B ≤ a ∧ a ≤ B) (h1 : 1 ≤ L.length) : ∀ a ∈ dst L, 0 ≤ a ∧ a ≤ 4 * B := fun a ha => by
  obtain ⟨b, hb', rfl⟩ := List.mem_map.1 ha
  have := twc_bd hb h1
  have := hb b hb'
  omega
theorem dbl_b {L : List Int} {B : Int} (hb : ∀ a ∈ L, -B ≤ a ∧ a ≤ B) : ∀ a ∈ dbl L, -(2 * B) ≤ a ∧ a ≤ 2 * B := fun a ha => by
  obtain ⟨b, hb', rfl⟩ := List.mem_map.1 ha
  have := hb b hb'
  omega
def s_mdnV (L : List Int) (v : Int × Int) : Spec := fun args S => match args, S with
  | [.ptr 0 0 0, .sl 1 s n x], [.arr .bool [bad] 0 true, .arr (.prod (.int .i64) (.int .i64)) l 2 wr] => ⟨((s + n ≤ l.length ∧ seg l s n = L.map hal) ∧ (n = L.length ∧ 1 ≤ n ∧ n ≤ 1048576) ∧ ∀ a ∈ L, -100000000 ≤ a ∧ a ≤ 100000000) ∧ redP (twc L) 4 = v.1 ∧ redQ (twc L) 4 = v.2, .agg [.int .i64 v.1, .int .i64 v.2], [.arr .bool [bad] 0 true, .arr (.prod (.int .i64) (.int .i64)) l 2 wr]⟩
  | _, _ => noSpec
theorem ok_mdnV (L : List Int) (v : Int × Int) : SpecOk Try.prog 31 (s_mdnV L v) := by
  intro args S h; unfold s_mdnV at h ⊢; (split at h <;> first | exact False.elim h | skip)
  dsimp only at h ⊢
  rename_i s n x bad l wr
  obtain ⟨h1, h2, h3⟩ := h
  have := ok_mdn L [.ptr 0 0 0, .sl 1 s n x] [.arr .bool [bad] 0 true, .arr (.prod (.int .i64) (.int .i64)) l 2 wr] h1
  rw [← h2, ← h3]
  exact this
def s_dsts : Spec := fun args S => match args, S with
  | [.ptr 0 0 0, .sl 1 s n x], [.arr .bool [bad] 0 true, .arr (.int .i64) l 1 wr] => ⟨(s + n ≤ l.length ∧ 1 ≤ n ∧ n ≤ 1048576) ∧ ∀ a ∈ seg l s n, -1000000 ≤ a ∧ a ≤ 1000000, .sl 2 0 n 0, [.arr .bool [bad] 0 true, .arr (.int .i64) l 1 wr, .arr (.prod (.int .i64) (.int .i64)) ((dst (seg l s n)).map hal) 2 true]⟩
  | _, _ => noSpec
theorem ok_dsts : SpecOk Try.prog 34 s_dsts := by
  intro args S h; unfold s_dsts at h ⊢; (split at h <;> first | exact False.elim h | skip)
  dsimp only at h ⊢
  rename_i s n x bad l wr
  obtain ⟨⟨h1, h2, h3⟩, hb0⟩ := h
  have hb : ∀ a : Int, a ∈ seg l s n → -1000000 ≤ a ∧ a ≤ 1000000 := hb0
  have hL := seg_len h1
  have hdl : (dbl (seg l s n)).length = n := by rw [dbl_len, hL]
  have hfl : (frs (seg l s n)).length = n := by rw [frs_len, hL]
  have hsf : seg (frs (seg l s n)) 0 n = (dbl (seg l s n)).map hal := by rw [seg_full hfl, frs_hal]; rfl
  have hb2 : ∀ a ∈ dbl (seg l s n), -100000000 ≤ a ∧ a ≤ 100000000 := fun a ha => by have := dbl_b hb a ha; omega
  have hbt := twc_bd hb (by omega)
  have e4 := red_hal (twc (seg l s n))
  have e2 : twc (dbl (seg l s n)) = _ := twc_2 (seg l s n)
  have hmt := hal_sm (a := twc (seg l s n)) (by omega)
  refine funW tabOk (E := [(32, s_fracs), (31, (s_mdnV (dbl (seg l s n)) (hal (twc (seg l s n))))), (56, s_sub), (55, s_size)]) ⟨ok_fracs, ok_mdnV _ _, ok_sub, ok_size, trivial⟩ [] (k := 2) (fn := Try.f34) rfl rfl rfl rfl rfl rfl ?_
  (repeat' ((try (conv => whnf)); first | (with_reducible first | refine And.intro ?_ ?_ | refine WX.of ?_) | exact zc | ((with_reducible refine VC.mk ?_); exact zw) | ((with_reducible refine VC.mk ?_); exact ⟨⟨⟨by omega, hsf⟩, ⟨hdl.symm, h2, h3⟩, hb2⟩, by rw [e2, e4.1], by rw [e2, e4.2]⟩) | (with_reducible first | refine splitT ?_ | refine splitF ?_) | ((with_reducible refine splitM.mk (fun hsm => ?_) (fun hsm => ?_)) <;> (try exact zx)) | ((with_reducible refine splitB.mk (fun h => ?_) (fun h => ?_)) <;> (try simp only [zs, ne_eq] at h) <;> (try simp (disch := omega) only [w64] at h) <;> (try exact zx)) | (with_reducible intro hz; (try exact absurd hz (Nat.succ_ne_zero _)))))
  have hdl2 : ((dst (seg l s n)).map hal).length = n := by rw [List.length_map, dst_len, hL]
  refine loopW tabOk (E := [(32, s_fracs), (31, (s_mdnV (dbl (seg l s n)) (hal (twc (seg l s n))))), (56, s_sub), (55, s_size)]) ⟨ok_fracs, ok_mdnV _ _, ok_sub, ok_size, trivial⟩ [] (σ := Nat) (fun i => [(0, .ptr 0 0 0), (5, .ptr 3 0 0), (6, .sl 2 0 i 0), (15, .sl 4 0 n 0), (16, .int .i64 n), (17, .int .i64 i)]) (fun i => [.arr .bool [bad] 0 true, .arr (.int .i64) l 1 wr, .arr (.prod (.int .i64) (.int .i64)) (((dst (seg l s n)).map hal).take i) 2 true, .arr (.prod (.int .i64) (.int .i64)) [hal (twc (seg l s n))] 0 true, .arr (.prod (.int .i64) (.int .i64)) (frs (seg l s n)) 2 true]) (fun i => n - i) (fun i => i ≤ n) 0 (Nat.zero_le _) ?_ ?_
  · (repeat' ((try (conv => whnf)); first | (with_reducible first | refine And.intro ?_ ?_ | refine WX.of ?_) | exact zc | ((with_reducible refine VC.mk ?_); exact zw) | (with_reducible first | refine splitT ?_ | refine splitF ?_) | ((with_reducible refine splitM.mk (fun hsm => ?_) (fun hsm => ?_)) <;> (try exact zx)) | ((with_reducible refine splitB.mk (fun h => ?_) (fun h => ?_)) <;> (try simp only [zs, ne_eq] at h) <;> (try simp (disch := omega) only [w64] at h) <;> (try exact zx)) | (with_reducible intro hz; (try exact absurd hz (Nat.succ_ne_zero _)))))
  · intro i hi
    have hlen : (((dst (seg l s n)).map hal).take i).length = i := by rw [List.length_take]; omega
    by_cases hlt : i < n
    · obtain ⟨a, ha⟩ := get_some (l := seg l s n) (i := i) (by omega)
      have hba := hb a (List.mem_of_getElem? ha)
      have hsb := hal_sub (a := a) (t := twc (seg l s n)) (by omega)
      have hda : ((dst (seg l s n)).map hal)[i]? = some (hal ((2 * a - twc (seg l s n)).natAbs : Int)) := by rw [List.getElem?_map, dst_get ha]; rfl
      rw [hal_abs] at hda
      have hsz := hal_sm (a := 2 * a - twc (seg l s n)) (by omega)
      (repeat' ((try (conv => whnf)); first | (with_reducible first | refine And.intro ?_ ?_ | refine WX.of ?_) | exact zc | ((with_reducible refine VC.mk ?_); exact zw) | with_reducible refine atL_0 (frs_get ha) ?_ | ((with_reducible refine VC.mk ?_); exact ⟨rfl, smF_1 (by omega), hmt⟩) | ((with_reducible refine VC.mk ?_); exact by rw [hsb.1, hsb.2.1]; exact hsz) | (with_reducible first | refine splitT ?_ | refine splitF ?_) | ((with_reducible refine splitM.mk (fun hsm => ?_) (fun hsm => ?_)) <;> (try exact zx)) | ((with_reducible refine splitB.mk (fun h => ?_) (fun h => ?_)) <;> (try simp only [zs, ne_eq] at h) <;> (try simp (disch := omega) only [w64] at h) <;> (try exact zx)) | (with_reducible intro hz; (try exact absurd hz (Nat.succ_ne_zero _)))))
      refine ⟨i + 1, by omega, hlt, ?_⟩
      (repeat' ((try (conv => whnf)); first | (with_reducible first | refine And.intro ?_ ?_ | refine WX.of ?_) | exact zc | ((with_reducible refine VC.mk ?_); exact zw) | (with_reducible first | refine splitT ?_ | refine splitF ?_) | ((with_reducible refine splitM.mk (fun hsm => ?_) (fun hsm => ?_)) <;> (try exact zx)) | ((with_reducible refine splitB.mk (fun h => ?_) (fun h => ?_)) <;> (try simp only [zs, ne_eq] at h) <;> (try simp (disch := omega) only [w64] at h) <;> (try exact zx)) | (with_reducible intro hz; (try exact absurd hz (Nat.succ_ne_zero _)))))
      · exact ⟨by dsimp only; rw [hsb.2.2]; simp⟩
      · exact ⟨by dsimp only; rw [hsb.1, hsb.2.1]; exact app_take hda⟩
    · obtain rfl : i = n := by omega
      rw [List.take_of_length_le (by omega)]
      (repeat' ((try (conv => whnf)); first | (with_reducible first | refine And.intro ?_ ?_ | refine WX.of ?_) | exact zc | ((with_reducible refine VC.mk ?_); exact zw) | (with_reducible first | refine splitT ?_ | refine splitF ?_) | ((with_reducible refine splitM.mk (fun hsm => ?_) (fun hsm => ?_)) <;> (try exact zx)) | ((with_reducible refine splitB.mk (fun h => ?_) (fun h => ?_)) <;> (try simp only [zs, ne_eq] at h) <;> (try simp (disch := omega) only [w64] at h) <;> (try exact zx)) | (with_reducible intro hz; (try exact absurd hz (Nat.succ_ne_zero _)))))
end Go.Proofs.Ytiojoddcckhjdaa.Eng
set_option linter.unusedVariables false
set_option linter.unusedSimpArgs false
namespace Go.Proofs.Ytiojoddcckhjdaa.Eng
open Go Go.RowKit
set_option maxRecDepth 100000
def s_dstS : Spec := fun args S => match args, S with
  | [.sl 0 s n x], [.arr (.int .i64) l 1 wr] => ⟨(s + n ≤ l.length ∧ 1 ≤ n ∧ n ≤ 1048576) ∧ ∀ a ∈ seg l s n, -1000000 ≤ a ∧ a ≤ 1000000, .sl 1 0 n 0, [.arr (.int .i64) l 1 wr, .arr (.int .i64) (dst (seg l s n)) 1 true]⟩
  | _, _ => noSpec
theorem ok_dstS : SpecOk Try.prog 33 s_dstS := by
  intro args S h; unfold s_dstS at h ⊢; (split at h <;> first | exact False.elim h | skip)
  dsimp only at h ⊢
  rename_i s n x l wr
  obtain ⟨⟨h1, h2, h3⟩, hb0⟩ := h
  have hb : ∀ a : Int, a ∈ seg l s n → -1000000 ≤ a ∧ a ≤ 1000000 := hb0
  have hL := seg_len h1
  have hbt := twc_bd hb (by omega)
  have hdl2 : (dst (seg l s n)).length = n := by rw [dst_len, hL]
  have hbd : ∀ (j : Nat) (a : Int), (seg l s n)[j]? = some a → -1000000000 ≤ a ∧ a ≤ 1000000000 := fun j a ha => by have := hb a (List.mem_of_getElem? ha); omega
  refine funW tabOk (E := [(29, s_twc), (43, s_abs)]) ⟨ok_l06Twice, ok_l01Abs, trivial⟩ [] (k := 1) (fn := Try.f33) rfl rfl rfl rfl rfl rfl ?_
  (repeat' ((try (conv => whnf)); first | (with_reducible first | refine And.intro ?_ ?_ | refine WX.of ?_) | exact zc | ((with_reducible refine VC.mk ?_); exact zw) | ((with_reducible refine VC.mk ?_); exact ⟨⟨h1, h2, h3⟩, hbd⟩) | (with_reducible first | refine splitT ?_ | refine splitF ?_) | ((with_reducible refine splitM.mk (fun hsm => ?_) (fun hsm => ?_)) <;> (try exact zx)) | ((with_reducible refine splitB.mk (fun h => ?_) (fun h => ?_)) <;> (try simp only [zs, ne_eq] at h) <;> (try simp (disch := omega) only [w64] at h) <;> (try exact zx)) | (with_reducible intro hz; (try exact absurd hz (Nat.succ_ne_zero _)))))
  refine loopW tabOk (E := [(29, s_twc), (43, s_abs)]) ⟨ok_l06Twice, ok_l01Abs, trivial⟩ [] (σ := Nat) (fun i => [(0, .sl 0 s n x), (3, .int .i64 (twc (seg l s n))), (4, .sl 1 0 i 0), (5, .int .i64 i)]) (fun i => [.arr (.int .i64) l 1 wr, .arr (.int .i64) ((dst (seg l s n)).take i) 1 true]) (fun i => n - i) (fun i => i ≤ n) 0 (Nat.zero_le _) ?_ ?_
  · (repeat' ((try (conv => whnf)); first | (with_reducible first | refine And.intro ?_ ?_ | refine WX.of ?_) | exact zc | ((with_reducible refine VC.mk ?_); exact zw) | (with_reducible first | refine splitT ?_ | refine splitF ?_) | ((with_reducible refine splitM.mk (fun hsm => ?_) (fun hsm => ?_)) <;> (try exact zx)) | ((with_reducible refine splitB.mk (fun h => ?_) (fun h => ?_)) <;> (try simp only [zs, ne_eq] at h) <;> (try simp (disch := omega) only [w64] at h) <;> (try exact zx)) | (with_reducible intro hz; (try exact absurd hz (Nat.succ_ne_zero _)))))
  · intro i hi
    have hlen : ((dst (seg l s n)).take i).length = i := by rw [List.length_take]; omega
    by_cases hlt : i < n
    · obtain ⟨a, ha⟩ := get_some (l := seg l s n) (i := i) (by omega)
      have hba := hb a (List.mem_of_getElem? ha)
      (repeat' ((try (conv => whnf)); first | (with_reducible first | refine And.intro ?_ ?_ | refine WX.of ?_) | exact zc | ((with_reducible refine VC.mk ?_); exact zw) | refine atL_i ha ?_ | ((with_reducible refine VC.mk ?_); simp (disch := omega) only [w64]; first  |  done  |  omega  |  (refine ⟨?_, ?_, ?_⟩ <;> first  |  trivial  |  omega)) | (with_reducible first | refine splitT ?_ | refine splitF ?_) | ((with_reducible refine splitM.mk (fun hsm => ?_) (fun hsm => ?_)) <;> (try exact zx)) | ((with_reducible refine splitB.mk (fun h => ?_) (fun h => ?_)) <;> (try simp only [zs, ne_eq] at h) <;> (try simp (disch := omega) only [w64] at h) <;> (try exact zx)) | (with_reducible intro hz; (try exact absurd hz (Nat.succ_ne_zero _)))))
      refine ⟨i + 1, by omega, hlt, ?_⟩
      (repeat' ((try (conv => whnf)); first | (with_reducible first | refine And.intro ?_ ?_ | refine WX.of ?_) | exact zc | ((with_reducible refine VC.mk ?_); exact zw) | (with_reducible first | refine splitT ?_ | refine splitF ?_) | ((with_reducible refine splitM.mk (fun hsm => ?_) (fun hsm => ?_)) <;> (try exact zx)) | ((with_reducible refine splitB.mk (fun h => ?_) (fun h => ?_)) <;> (try simp only [zs, ne_eq] at h) <;> (try simp (disch := omega) only [w64] at h) <;> (try exact zx)) | (with_reducible intro hz; (try exact absurd hz (Nat.succ_ne_zero _)))))
      exact ⟨by simp (disch := omega) only [w64]; exact app_take (dst_get ha)⟩
    · obtain rfl : i = n := by omega
      rw [List.take_of_length_le (by omega)]
      (repeat' ((try (conv => whnf)); first | (with_reducible first | refine And.intro ?_ ?_ | refine WX.of ?_) | exact zc | ((with_reducible refine VC.mk ?_); exact zw) | (with_reducible first | refine splitT ?_ | refine splitF ?_) | ((with_reducible refine splitM.mk (fun hsm => ?_) (fun hsm => ?_)) <;> (try exact zx)) | ((with_reducible refine splitB.mk (fun h => ?_) (fun h => ?_)) <;> (try simp only [zs, ne_eq] at h) <;> (try simp (disch := omega) only [w64] at h) <;> (try exact zx)) | (with_reducible intro hz; (try exact absurd hz (Nat.succ_ne_zero _)))))
/-- The scatter, and its code. -/
def scP (L : List Int) : Int := if areB L = true then redP (twc (dst L)) 4 else 0
def scQ (L : List Int) : Int := if areB L = true then redQ (twc (dst L)) 4 else 0
def s_scat : Spec := fun args S => match args, S with
  | [.sl 0 s n x], [.arr (.int .i64) l 1 wr] => ⟨s + n ≤ l.length ∧ n ≤ 1048576, .tup [.agg [.int .i64 (scP (seg l s n)), .int .i64 (scQ (seg l s n))], .int .i64 (areCode (seg l s n))], [.arr (.int .i64) l 1 wr]⟩
  | _, _ => noSpec
theorem are_b {L : List Int} (h : areB L = true) : ∀ a ∈ L, -1000000 ≤ a ∧ a ≤ 1000000 := fun a ha => by
  obtain ⟨j, hj⟩ := List.getElem?_of_mem ha
  exact are_all h hj
theorem sc_F {L : List Int} (h : areB L = false) : areCode L = 2 ∧ scP L = 0 ∧ scQ L = 0 := by unfold areCode scP scQ; rw [h]; exact ⟨rfl, rfl, rfl⟩
theorem sc_T {L : List Int} (h : areB L = true) : areCode L = 0 ∧ scP L = redP (twc (dst L)) 4 ∧ scQ L = redQ (twc (dst L)) 4 := by unfold areCode scP scQ; rw [h]; exact ⟨rfl, rfl, rfl⟩
theorem ok_ScatterOfS : SpecOk Try.prog 14 s_scat := by
  intro args S h; unfold s_scat at h ⊢; (split at h <;> first | exact False.elim h | skip)
  dsimp only at h ⊢
  rename_i s n x l wr
  obtain ⟨h1, h2⟩ := h
  have hL := seg_len h1
  cases hA : areB (seg l s n) with
  | false =>
    obtain ⟨hc, hp, hq⟩ := sc_F hA
    rw [hc, hp, hq]
    refine funW tabOk (E := [(20, s_l06List)]) ⟨ok_l06List, trivial⟩ [] (k := 1) (fn := Try.f14) rfl rfl rfl rfl rfl rfl ?_
    (repeat' ((try (conv => whnf)); first | (with_reducible first | refine And.intro ?_ ?_ | refine WX.of ?_) | exact zc | ((with_reducible refine VC.mk ?_); exact zw) | ((with_reducible refine splitT_of ?_ ?_); (focus (simp only [hc, Bool.not_true, Bool.not_false, decide_true, decide_false]; done))) | ((with_reducible refine splitF_of ?_ ?_); (focus (simp only [hc, Bool.not_true, Bool.not_false, decide_true, decide_false]; done))) | (with_reducible first | refine splitT ?_ | refine splitF ?_) | ((with_reducible refine splitM.mk (fun hsm => ?_) (fun hsm => ?_)) <;> (try exact zx)) | ((with_reducible refine splitB.mk (fun h => ?_) (fun h => ?_)) <;> (try simp only [zs, ne_eq] at h) <;> (try simp (disch := omega) only [w64] at h) <;> (try exact zx)) | (with_reducible intro hz; (try exact absurd hz (Nat.succ_ne_zero _)))))
    all_goals (first | exact ⟨by rw [hc]⟩ | (exfalso; rw [hc] at h; simp at h; done) | trace_state)
  | true =>
    obtain ⟨hc, hp, hq⟩ := sc_T hA
    have hn := are_len hA
    rw [hL] at hn
    have hb := are_b hA
    have hdl2 : (dst (seg l s n)).length = n := by rw [dst_len, hL]
    have hbd := dst_b hb (by omega)
    have hbt := twc_bd (L := dst (seg l s n)) (B := 4000000) (fun a ha => by have := hbd a ha; omega) (by omega)
    have ho := redOk_small (p := twc (dst (seg l s n))) (q := 4) (by omega) (by omega)
    have hbe : ∀ (j : Nat) (a : Int), (seg (dst (seg l s n)) 0 n)[j]? = some a → -1000000000 ≤ a ∧ a ≤ 1000000000 := fun j a ha => by rw [seg_full hdl2] at ha; have := hbd a (List.mem_of_getElem? ha); omega
    have hsd : seg (dst (seg l s n)) 0 n = dst (seg l s n) := seg_full hdl2
    rw [hc, hp, hq]
    refine funW tabOk (E := [(20, s_l06List), (33, s_dstS), (29, s_twc), (23, s_red)]) ⟨ok_l06List, ok_dstS, ok_l06Twice, ok_l01Reduced, trivial⟩ [] (k := 1) (fn := Try.f14) rfl rfl rfl rfl rfl rfl ?_
    (repeat' ((try (conv => whnf)); first | (with_reducible first | refine And.intro ?_ ?_ | refine WX.of ?_) | exact zc | ((with_reducible refine VC.mk ?_); exact zw) | ((with_reducible refine splitT_of ?_ ?_); (focus (simp only [hc, Bool.not_true, Bool.not_false, decide_true, decide_false]; done))) | ((with_reducible refine splitF_of ?_ ?_); (focus (simp only [hc, Bool.not_true, Bool.not_false, decide_true, decide_false]; done))) | ((with_reducible refine VC.mk ?_); exact ⟨⟨h1, by omega, h2⟩, hb⟩) | ((with_reducible refine VC.mk ?_); exact ⟨⟨by omega, by omega, h2⟩, hbe⟩) | ((with_reducible refine VC.mk ?_); exact ⟨by omega, by omega, by omega⟩) | ((with_reducible refine VC.mk ?_); exact by rw [hsd]; exact ⟨by omega, by omega, by omega⟩) | (with_reducible first | refine splitT ?_ | refine splitF ?_) | ((with_reducible refine splitM.mk (fun hsm => ?_) (fun hsm => ?_)) <;> (try exact zx)) | ((with_reducible refine splitB.mk (fun h => ?_) (fun h => ?_)) <;> (try simp only [zs, ne_eq] at h) <;> (try simp (disch := omega) only [w64] at h) <;> (try exact zx)) | (with_reducible intro hz; (try exact absurd hz (Nat.succ_ne_zero _)))))
    all_goals (first | (exfalso; rw [hc] at h; simp at h; done) | exact ⟨by rw [hsd]; simp only [ho, if_true]⟩ | trace_state)
theorem ok_ScatterOfI : SpecOk Try.prog 15 s_scat := by
  intro args S h; unfold s_scat at h ⊢; (split at h <;> first | exact False.elim h | skip)
  dsimp only at h ⊢
  rename_i s n x l wr
  obtain ⟨h1, h2⟩ := h
  have hL := seg_len h1
  cases hA : areB (seg l s n) with
  | false =>
    obtain ⟨hc, hp, hq⟩ := sc_F hA
    rw [hc, hp, hq]
    refine funW tabOk (E := [(24, s_are)]) ⟨ok_areReadings, trivial⟩ [] (k := 1) (fn := Try.f15) rfl rfl rfl rfl rfl rfl ?_
    (repeat' ((try (conv => whnf)); first | (with_reducible first | refine And.intro ?_ ?_ | refine WX.of ?_) | exact zc | ((with_reducible refine VC.mk ?_); exact zw) | ((with_reducible refine splitT_of ?_ ?_); (focus (simp only [hA, Bool.not_true, Bool.not_false, decide_true, decide_false]; done))) | ((with_reducible refine splitF_of ?_ ?_); (focus (simp only [hA, Bool.not_true, Bool.not_false, decide_true, decide_false]; done))) | (with_reducible first | refine splitT ?_ | refine splitF ?_) | ((with_reducible refine splitM.mk (fun hsm => ?_) (fun hsm => ?_)) <;> (try exact zx)) | ((with_reducible refine splitB.mk (fun h => ?_) (fun h => ?_)) <;> (try simp only [zs, ne_eq] at h) <;> (try simp (disch := omega) only [w64] at h) <;> (try exact zx)) | (with_reducible intro hz; (try exact absurd hz (Nat.succ_ne_zero _)))))
  | true =>
    obtain ⟨hc, hp, hq⟩ := sc_T hA
    have hn := are_len hA
    rw [hL] at hn
    have hb := are_b hA
    have hdl2 : ((dst (seg l s n)).map hal).length = n := by rw [List.length_map, dst_len, hL]
    have hbd := dst_b hb (by omega)
    have hb2 : ∀ a ∈ dst (seg l s n), -100000000 ≤ a ∧ a ≤ 100000000 := fun a ha => by have := hbd a ha; omega
    rw [hc, hp, hq]
    refine funW tabOk (E := [(24, s_are), (34, s_dsts), (31, (s_mdn (dst (seg l s n)))), (30, s_one)]) ⟨ok_areReadings, ok_dsts, ok_mdn _, ok_one, trivial⟩ [] (k := 1) (fn := Try.f15) rfl rfl rfl rfl rfl rfl ?_
    (repeat' ((try (conv => whnf)); first | (with_reducible first | refine And.intro ?_ ?_ | refine WX.of ?_) | exact zc | ((with_reducible refine VC.mk ?_); exact zw) | ((with_reducible refine splitT_of ?_ ?_); (focus (simp only [hA, Bool.not_true, Bool.not_false, decide_true, decide_false]; done))) | ((with_reducible refine splitF_of ?_ ?_); (focus (simp only [hA, Bool.not_true, Bool.not_false, decide_true, decide_false]; done))) | ((with_reducible refine VC.mk ?_); exact ⟨⟨h1, by omega, h2⟩, hb⟩) | ((with_reducible refine VC.mk ?_); exact ⟨⟨by omega, seg_full hdl2⟩, ⟨by rw [dst_len, hL], by omega, h2⟩, hb2⟩) | (with_reducible first | refine splitT ?_ | refine splitF ?_) | ((with_reducible refine splitM.mk (fun hsm => ?_) (fun hsm => ?_)) <;> (try exact zx)) | ((with_reducible refine splitB.mk (fun h => ?_) (fun h => ?_)) <;> (try simp only [zs, ne_eq] at h) <;> (try simp (disch := omega) only [w64] at h) <;> (try exact zx)) | (with_reducible intro hz; (try exact absurd hz (Nat.succ_ne_zero _)))))
theorem law_scatterOf {c : Bool} {n : Nat} {l : List Int} (hn : n ≤ l.length) (hc : c = true → l = []) (ho : ∀ y ∈ l, ET.Ok (.int .i64) y) : RunsS Try.prog 5 [.opt c 0 n 0] [.arrO (.int .i64) l 1] (.bool true) [.arrO (.int .i64) l 1] := by
  have hL : (seg l 0 n).length = n := seg_len (by omega)
  refine funW tabOk (E := [(8, s_toInt64S), (14, s_scat), (15, s_scat), (11, s_eqInt64S), (10, s_eqFrac)]) ⟨ok_toInt64S, ok_ScatterOfS, ok_ScatterOfI, ok_eqInt64S, ok_eqFrac, trivial⟩ [] (k := 1) (fn := Try.f5) rfl rfl rfl rfl rfl rfl ?_
  (repeat' ((try (conv => whnf)); first | (with_reducible first | refine And.intro ?_ ?_ | refine WX.of ?_) | exact zc | ((with_reducible refine VC.mk ?_); exact zw) | exact ⟨⟨hn, hc, by omega⟩⟩ | (with_reducible first | refine splitT ?_ | refine splitF ?_) | ((with_reducible refine splitM.mk (fun hsm => ?_) (fun hsm => ?_)) <;> (try exact zx)) | ((with_reducible refine splitB.mk (fun h => ?_) (fun h => ?_)) <;> (try simp only [zs, ne_eq] at h) <;> (try simp (disch := omega) only [w64] at h) <;> (try exact zx)) | (with_reducible intro hz; (try exact absurd hz (Nat.succ_ne_zero _)))))
end Go.Proofs.Ytiojoddcckhjdaa.Eng
set_option linter.unusedVariables false
set_option linter.unusedSimpArgs false
namespace Go.Proofs.Ytiojoddcckhjdaa.Eng
open Go Go.RowKit
set_option maxRecDepth 100000
theorem del_a {M : List Int} {i x : Nat} (hi : i < M.length) (hz : M.length - (i + 1) = 0) : List.take (0 + i) (M ++ List.replicate x 0) ++ List.replicate (M.length - i) 0 ++ List.drop (0 + i + (M.length - i)) (M ++ List.replicate x 0) = M.eraseIdx i ++ List.replicate (x + 1) 0 := by
  rw [Nat.zero_add, show i + (M.length - i) = M.length by omega, List.drop_left, List.take_append_of_le_length (by omega), show M.length - i = 1 by omega, List.eraseIdx_eq_take_drop_succ, show List.drop (i + 1) M = [] from List.drop_eq_nil_of_le (by omega), List.append_nil, List.append_assoc]
  rfl
theorem del_b {M : List Int} {i x : Nat} (hi : i < M.length) :
    List.take (0 + (i + (M.length - (i + 1)))) (List.take (0 + i) (M ++ List.replicate x 0) ++ seg (M ++ List.replicate x 0) (0 + (i + 1)) (M.length - (i + 1)) ++ List.drop (0 + i + (M.length - (i + 1))) (M ++ List.replicate x 0)) ++ List.replicate (M.length - (i + (M.length - (i + 1)))) 0
      ++ List.drop (0 + (i + (M.length - (i + 1))) + (M.length - (i + (M.length - (i + 1))))) (List.take (0 + i) (M ++ List.replicate x 0) ++ seg (M ++ List.replicate x 0) (0 + (i + 1)) (M.length - (i + 1)) ++ List.drop (0 + i + (M.length - (i + 1))) (M ++ List.replicate x 0)) = M.eraseIdx i ++ List.replicate (x + 1) 0 := by
  have hk : M.length - (i + 1) + (i + 1) = M.length := by omega
  have hp : (List.take (0 + i) (M ++ List.replicate x 0) ++ seg (M ++ List.replicate x 0) (0 + (i + 1)) (M.length - (i + 1))) = M.eraseIdx i := by
    rw [List.eraseIdx_eq_take_drop_succ, Nat.zero_add, Nat.zero_add, List.take_append_of_le_length (by omega)]
    congr 1
    unfold seg
    rw [List.drop_append_of_le_length (by omega), List.take_append_of_le_length (by rw [List.length_drop]; omega), List.take_of_length_le (by rw [List.length_drop]; omega)]
  rw [hp]
  have hl : (M.eraseIdx i).length = i + (M.length - (i + 1)) := by rw [List.length_eraseIdx, if_pos hi]; omega
  rw [Nat.zero_add, ← hl, List.take_left, List.drop_append, List.drop_eq_nil_of_le (by omega), List.nil_append, show 0 + i = i by omega, List.drop_drop, show M.length - (M.eraseIdx i).length = 1 by omega,
    show i + (M.length - (i + 1)) + ((M.eraseIdx i).length + 1 - (M.eraseIdx i).length) = M.length by omega, List.drop_left, List.append_assoc]
  rfl
theorem del_l {M : List Int} {i x : Nat} (hi : i < M.length) : (List.take (0 + i) (M ++ List.replicate x 0) ++ seg (M ++ List.replicate x 0) (0 + (i + 1)) (M.length - (i + 1)) ++ List.drop (0 + i + (M.length - (i + 1))) (M ++ List.replicate x 0)).length = M.length + x := by
  rw [List.length_append, List.length_append, seg_len (by rw [List.length_append]; omega), List.length_take, List.length_drop, List.length_append, List.length_replicate]
  omega
/-- slices.Delete of one number, out of a row whose rest is 0. -/
def s_delI (M : List Int) (z i : Nat) : Spec := fun args S => match args, S with
  | [.sl 0 0 m x, .int .i64 a, .int .i64 b], [.arr (.int .i64) l 1 true] => ⟨(l = M ++ List.replicate z 0 ∧ m = M.length ∧ x = z) ∧ (a = i ∧ b = i + 1 ∧ i < M.length) ∧ M.length + z ≤ 1048576, .sl 0 0 (M.length - 1) (z + 1), [.arr (.int .i64) (M.eraseIdx i ++ List.replicate (z + 1) 0) 1 true]⟩
  | _, _ => noSpec
theorem ok_delI (M : List Int) (z i : Nat) : SpecOk Try.prog 39 (s_delI M z i) := by
  intro args S h; unfold s_delI at h ⊢; (split at h <;> first | exact False.elim h | skip)
  dsimp only at h ⊢
  rename_i m x a b l
  obtain ⟨⟨rfl, rfl, rfl⟩, ⟨rfl, rfl, hi⟩, hs⟩ := h
  refine funW tabOk (E := []) trivial [] (k := 1) (fn := Try.f39) rfl rfl rfl rfl rfl rfl ?_
  (repeat' ((try (conv => whnf)); first | (with_reducible first | refine And.intro ?_ ?_ | refine WX.of ?_) | exact zc | ((with_reducible refine VC.mk ?_); exact zw) | ((with_reducible refine VC.mk ?_); (first  |  omega  |  (simp only [Option.getD_some]; omega)  |  (rw [List.length_append, List.length_replicate]; omega))) | (with_reducible first | refine splitT ?_ | refine splitF ?_) | ((with_reducible refine splitM.mk (fun hsm => ?_) (fun hsm => ?_)) <;> (try exact zx)) | ((with_reducible refine splitB.mk (fun h => ?_) (fun h => ?_)) <;> (try simp only [zs, ne_eq] at h) <;> (try simp (disch := omega) only [w64] at h) <;> (try exact zx)) | (with_reducible intro hz; (try exact absurd hz (Nat.succ_ne_zero _)))))
  · exact ⟨congrArg (fun z => [SB.arr (ET.int .i64) z 1 true]) (del_a hi hz)⟩
  · refine ⟨Nat.le_trans ?_ (Nat.le_of_eq (del_l (x := x) hi).symm)⟩
    omega
  · exact ⟨congrArg (fun z => [SB.arr (ET.int .i64) z 1 true]) (del_b hi)⟩
end Go.Proofs.Ytiojoddcckhjdaa.Eng
set_option linter.unusedVariables false
set_option linter.unusedSimpArgs false
namespace Go.Proofs.Ytiojoddcckhjdaa.Eng
open Go Go.RowKit
set_option maxRecDepth 100000
def gi (D : List Int) (i : Nat) : Int := (D[i]?).getD 0
theorem gi_e {D : List Int} {i : Nat} {a : Int} (h : D[i]? = some a) : gi D i = a := by unfold gi; rw [h]; rfl
/-- The first of the greatest among i numbers. -/
def farU (D : List Int) : Nat → Nat
  | 0 => 0
  | i + 1 => if gi D (farU D i) < gi D i then i else farU D i
theorem farU_1 (D : List Int) : farU D 1 = 0 := by unfold farU farU; split <;> rfl
theorem farU_lt {D : List Int} (h : 0 < D.length) : ∀ (i : Nat), i ≤ D.length → farU D i < D.length
  | 0, _ => h
  | i + 1, hi => by
    unfold farU
    split
    · omega
    · exact farU_lt h i (by omega)
def stpB (times : Int) (M : List Int) : Bool := decide (2 * gi (dst M) (farU (dst M) M.length) ≤ times * twc (dst M))
def lvo (times : Int) (h : Nat) : Nat → List Int → List Int
  | 0, M => M
  | k + 1, M => if h < M.length then (if stpB times M = true then M else lvo times h k (M.eraseIdx (farU (dst M) M.length))) else M
theorem lvo_stop {times : Int} {h k : Nat} {M : List Int} (hh : ¬ h < M.length) : lvo times h k M = M := by
  cases k with
  | zero => rfl
  | succ k => unfold lvo; rw [if_neg hh]
theorem lvo_brk {times : Int} {h k : Nat} {M : List Int} (hs : stpB times M = true) : lvo times h k M = M := by
  cases k with
  | zero => rfl
  | succ k => unfold lvo; split <;> simp [hs]
theorem lvo_go {times : Int} {h k : Nat} {M : List Int} (hh : h < M.length) (hs : stpB times M = false) : lvo times h (k + 1) M = lvo times h k (M.eraseIdx (farU (dst M) M.length)) := by
  conv => lhs; unfold lvo
  rw [if_pos hh, hs]; rfl
theorem lvo_len {times : Int} {h : Nat} : ∀ (k : Nat) (M : List Int), (lvo times h k M).length ≤ M.length
  | 0, M => Nat.le_refl _
  | k + 1, M => by
    unfold lvo
    split
    · split
      · exact Nat.le_refl _
      · exact Nat.le_trans (lvo_len k _) (List.length_eraseIdx_le ..)
    · exact Nat.le_refl _
theorem red_x {p q : Int} (hq : 0 < q) : redP p q * q = p * redQ p q := by
  have h := red_back (p := p) (q := q) hq
  generalize redP p q = P at *
  generalize redQ p q = Q at *
  generalize redG p q = g at *
  obtain ⟨h1, h2⟩ := h
  rw [h1]
  conv => lhs; rw [h2]
  grind
/-- The test of the farthest one. -/
theorem far_test {d t : Int} : (hal d).1 * redQ t 4 ≤ redP t 4 * (hal d).2 ↔ 2 * d ≤ t := by
  have h1 := hal_x d
  have h2 := red_x (p := t) (q := 4) (by omega)
  have q1 := hal_q d
  have q2 := redQ_pos (p := t) (q := 4) (by omega)
  generalize (hal d).1 = P at *
  generalize (hal d).2 = Q at *
  generalize redP t 4 = R at *
  generalize redQ t 4 = S at *
  have e1 : (P * S) * 8 = (2 * d) * (2 * (Q * S)) := by grind
  have e2 : (R * Q) * 8 = t * (2 * (Q * S)) := by grind
  have hp : 0 < 2 * (Q * S) := by have := Int.mul_pos q1 q2; omega
  constructor
  · intro h
    have : (2 * d) * (2 * (Q * S)) ≤ t * (2 * (Q * S)) := by omega
    exact Int.le_of_mul_le_mul_right this hp
  · intro h
    have := Int.mul_le_mul_of_nonneg_right h (show 0 ≤ 2 * (Q * S) by omega)
    omega
theorem mul_4 {c t : Int} (h : -1000000000 ≤ c * t ∧ c * t ≤ 1000000000) : tolP (c * redP t 4) (1 * redQ t 4) = redP (c * t) 4 ∧ tolQ (c * redP t 4) (1 * redQ t 4) = redQ (c * t) 4 ∧ redOk (c * redP t 4) (1 * redQ t 4) = true := by
  have h2 := red_x (p := t) (q := 4) (by omega)
  have q2 := redQ_pos (p := t) (q := 4) (by omega)
  exact tol_red (p' := c * t) (q' := 4) (by omega) (by omega) (by grind) (redOk_small h (by omega))
def lvOk (L : List Int) (times : Int) : Bool := areB L && decide (1 ≤ times ∧ times ≤ 100)
def lvF (L : List Int) (times : Int) : List Int := lvo times (L.length / 2 + 1) L.length L
def s_lvI1 : Spec := fun args S => match args, S with
  | [.sl 0 s n x, .int .i64 times], [.arr (.int .i64) l 1 wr] => ⟨(s + n ≤ l.length ∧ n ≤ 1048576) ∧ lvOk (seg l s n) times = true, .tup [.sl 1 0 (lvF (seg l s n) times).length (n - (lvF (seg l s n) times).length), .int .i64 0], [.arr (.int .i64) l 1 wr, .arr (.int .i64) (lvF (seg l s n) times ++ List.replicate (n - (lvF (seg l s n) times).length) 0) 1 true]⟩
  | _, _ => noSpec
theorem ok_LeaveOutI1 : SpecOk Try.prog 17 s_lvI1 := by
  intro args S h; unfold s_lvI1 at h ⊢; (split at h <;> first | exact False.elim h | skip)
  dsimp only at h ⊢
  rename_i s n x times l wr
  obtain ⟨⟨h1, h2⟩, ho⟩ := h
  have hL := seg_len h1
  unfold lvOk at ho
  rw [Bool.and_eq_true, decide_eq_true_iff] at ho
  obtain ⟨hA, ht⟩ := ho
  have hn := are_len hA
  rw [hL] at hn
  have hb := are_b hA
  have hq : IntKind.i64.wrap (IntKind.i64.wrap ((n : Int).tdiv 2) + 1) = ((n / 2 + 1 : Nat) : Int) := by
    rw [Int.tdiv_eq_ediv_of_nonneg (by omega), w64 (n := (n : Int) / 2) (by omega), w64 (by omega)]; omega
  have hF : lvo times (n / 2 + 1) n (seg l s n) = lvF (seg l s n) times := by unfold lvF; rw [hL]
  generalize lvF (seg l s n) times = F at *
  refine funW tabOk (E := [(24, s_are), (25, s_within), (35, s_cloneI)]) ⟨ok_areReadings, ok_within, ok_cloneI, trivial⟩ [(12, [(3, 1), (3, 2), (3, 3)])] (k := 1) (fn := Try.f17) rfl rfl rfl rfl rfl rfl ?_
  (repeat' ((try (conv => whnf)); first | (with_reducible first | refine And.intro ?_ ?_ | refine WX.of ?_) | exact zc | ((with_reducible refine VC.mk ?_); exact zw) | ((with_reducible refine splitT_of ?_ ?_); (focus (simp only [hA, Bool.not_true, Bool.not_false, decide_true, decide_false]; done))) | ((with_reducible refine splitF_of ?_ ?_); (focus (simp only [hA, Bool.not_true, Bool.not_false, decide_true, decide_false]; done))) | (with_reducible first | refine splitT ?_ | refine splitF ?_) | ((with_reducible refine splitM.mk (fun hsm => ?_) (fun hsm => ?_)) <;> (try exact zx)) | ((with_reducible refine splitB.mk (fun h => ?_) (fun h => ?_)) <;> (try simp only [zs, ne_eq] at h) <;> (try simp (disch := omega) only [w64] at h) <;> (try exact zx)) | (with_reducible intro hz; (try exact absurd hz (Nat.succ_ne_zero _)))))
  refine loopWs tabOk (fun k => [(34, s_dsts), (36, s_cmp), (38, s_num), (31, (s_mdn (dst k.2))), (37, s_mul), (39, (s_delI k.2 (n - k.2.length) (farU (dst k.2) k.2.length)))]) (fun k => ⟨ok_dsts, ok_compare, ok_num, ok_mdn _, ok_mul, ok_delI _ _ _, trivial⟩) [(12, [(3, 1), (3, 2), (3, 3)])] (σ := Nat × List Int) (fun k => [(0, .sl 0 s n x), (1, .int .i64 times), (6, .sl 1 0 k.2.length (n - k.2.length)), (7, .ptr 2 0 0)]) (fun k => [.arr (.int .i64) l 1 wr, .arr (.int .i64) (k.2 ++ List.replicate (n - k.2.length) 0) 1 true, .arr .bool [false] 0 true]) (fun k => k.1) (fun k => ((k.2.length ≤ k.1 ∧ k.1 ≤ n) ∧ 1 ≤ k.2.length) ∧ lvo times (n / 2 + 1) k.1 k.2 = F ∧ ∀ a ∈ k.2, -1000000 ≤ a ∧ a ≤ 1000000) (n, seg l s n) ⟨⟨⟨Nat.le_of_eq hL, Nat.le_refl _⟩, by dsimp only; omega⟩, hF, hb⟩ ?_ ?_
  · (repeat' ((try (conv => whnf)); first | (with_reducible first | refine And.intro ?_ ?_ | refine WX.of ?_) | exact zc | ((with_reducible refine VC.mk ?_); exact zw) | (with_reducible first | refine splitT ?_ | refine splitF ?_) | ((with_reducible refine splitM.mk (fun hsm => ?_) (fun hsm => ?_)) <;> (try exact zx)) | ((with_reducible refine splitB.mk (fun h => ?_) (fun h => ?_)) <;> (try simp only [zs, ne_eq] at h) <;> (try simp (disch := omega) only [w64] at h) <;> (try exact zx)) | (with_reducible intro hz; (try exact absurd hz (Nat.succ_ne_zero _)))))
    exact ⟨by rw [hL, Nat.sub_self]; simp⟩
  · intro ⟨k, M⟩ ⟨⟨⟨hk1, hk2⟩, hk3⟩, hl, hbM⟩
    dsimp only at hk1 hk2 hk3 hl hbM ⊢
    by_cases hgo : n / 2 + 1 < M.length
    · have hkg : decide (IntKind.i64.wrap (IntKind.i64.wrap ((n : Int).tdiv 2) + 1) < (M.length : Int)) = true := by rw [hq]; exact decide_eq_true (by omega)
      have hsM : seg (M ++ List.replicate (n - M.length) 0) 0 M.length = M := by unfold seg; rw [List.drop_zero, List.take_left]
      have hdl : (dst M).length = M.length := dst_len M
      have hdb := dst_b hbM (by omega)
      have hdb2 : ∀ a ∈ dst M, -100000000 ≤ a ∧ a ≤ 100000000 := fun a ha => by have := hdb a ha; omega
      have hdm : ((dst M).map hal).length = M.length := by rw [List.length_map, hdl]
      have hmb := twc_bd (L := dst M) (B := 4000000) (fun a ha => by have := hdb a ha; omega) (by omega)
      (repeat' ((try (conv => whnf)); first | (with_reducible first | refine And.intro ?_ ?_ | refine WX.of ?_) | exact zc | ((with_reducible refine VC.mk ?_); exact zw) | ((with_reducible refine splitT_of ?_ ?_); (focus (simp only [hkg, Bool.not_true, Bool.not_false, decide_true, decide_false]; done))) | ((with_reducible refine splitF_of ?_ ?_); (focus (simp only [hkg, Bool.not_true, Bool.not_false, decide_true, decide_false]; done))) | ((with_reducible refine VC.mk ?_); exact ⟨⟨by rw [List.length_append, List.length_replicate]; omega, hk3, by omega⟩, by rw [hsM]; exact hbM⟩) | (with_reducible first | refine splitT ?_ | refine splitF ?_) | ((with_reducible refine splitM.mk (fun hsm => ?_) (fun hsm => ?_)) <;> (try exact zx)) | ((with_reducible refine splitB.mk (fun h => ?_) (fun h => ?_)) <;> (try simp only [zs, ne_eq] at h) <;> (try simp (disch := omega) only [w64] at h) <;> (try exact zx)) | (with_reducible intro hz; (try exact absurd hz (Nat.succ_ne_zero _)))))
      refine loopWs tabOk (fun _y => [(36, s_cmp)]) (fun _y => ⟨ok_compare, trivial⟩) [(12, [(3, 1), (3, 2), (3, 3)])] (σ := Nat) (fun i => [(0, .sl 0 s n x), (1, .int .i64 times), (6, .sl 1 0 M.length (n - M.length)), (7, .ptr 2 0 0), (8, .int .i64 (farU (dst M) i)), (9, .sl 3 0 M.length 0), (34, .sl 3 0 M.length 0), (35, .int .i64 M.length), (36, .int .i64 i)]) (fun i => [.arr (.int .i64) l 1 wr, .arr (.int .i64) (M ++ List.replicate (n - M.length) 0) 1 true, .arr .bool [false] 0 true, .arr (.prod (.int .i64) (.int .i64)) ((dst M).map hal) 2 true]) (fun i => M.length - i) (fun i => i ≤ M.length) 0 (Nat.zero_le _) ?_ ?_
      · (repeat' ((try (conv => whnf)); first | (with_reducible first | refine And.intro ?_ ?_ | refine WX.of ?_) | exact zc | ((with_reducible refine VC.mk ?_); exact zw) | (with_reducible first | refine splitT ?_ | refine splitF ?_) | ((with_reducible refine splitM.mk (fun hsm => ?_) (fun hsm => ?_)) <;> (try exact zx)) | ((with_reducible refine splitB.mk (fun h => ?_) (fun h => ?_)) <;> (try simp only [zs, ne_eq] at h) <;> (try simp (disch := omega) only [w64] at h) <;> (try exact zx)) | (with_reducible intro hz; (try exact absurd hz (Nat.succ_ne_zero _)))))
        exact ⟨by rw [hsM]⟩
      · intro i hi
        by_cases hlt : i < M.length
        · obtain ⟨d, hd⟩ := get_some (l := dst M) (i := i) (by omega)
          obtain ⟨e, he⟩ := get_some (l := dst M) (i := farU (dst M) i) (farU_lt (by omega) i (by omega))
          have hdh : ((dst M).map hal)[i]? = some (hal d) := by rw [List.getElem?_map, hd]; rfl
          have heh : ((dst M).map hal)[farU (dst M) i]? = some (hal e) := by rw [List.getElem?_map, he]; rfl
          have hbd := hdb d (List.mem_of_getElem? hd)
          have hbe := hdb e (List.mem_of_getElem? he)
          have hfl := farU_lt (D := dst M) (by omega) i (by omega)
          have hst : farU (dst M) (i + 1) = if e < d then i else farU (dst M) i := by
            conv => lhs; unfold farU
            rw [gi_e he, gi_e hd]
          have hgt : 0 < cmpF (hal d).1 (hal d).2 (hal e).1 (hal e).2 ↔ e < d := by rw [cmpF_gt, hal_lt]
          by_cases hed : e < d
          · have hk : decide (0 < cmpF (hal d).1 (hal d).2 (hal e).1 (hal e).2) = true := decide_eq_true (hgt.2 hed)
            (repeat' ((try (conv => whnf)); first | (with_reducible first | refine And.intro ?_ ?_ | refine WX.of ?_) | exact zc | ((with_reducible refine VC.mk ?_); exact zw) | with_reducible refine atL_0 hdh ?_ | with_reducible refine atL_0 heh ?_ | ((with_reducible refine VC.mk ?_); exact ⟨hal_sm (by omega), hal_sm (by omega)⟩) | ((with_reducible refine splitT_of ?_ ?_); (focus (simp only [gt_iff_lt, hk, Bool.not_true, Bool.not_false, decide_true, decide_false]; done))) | ((with_reducible refine splitF_of ?_ ?_); (focus (simp only [gt_iff_lt, hk, Bool.not_true, Bool.not_false, decide_true, decide_false]; done))) | (with_reducible first | refine splitT ?_ | refine splitF ?_) | ((with_reducible refine splitM.mk (fun hsm => ?_) (fun hsm => ?_)) <;> (try exact zx)) | ((with_reducible refine splitB.mk (fun h => ?_) (fun h => ?_)) <;> (try simp only [zs, ne_eq] at h) <;> (try simp (disch := omega) only [w64] at h) <;> (try exact zx)) | (with_reducible intro hz; (try exact absurd hz (Nat.succ_ne_zero _)))))
            refine ⟨i + 1, by omega, hlt, ?_⟩
            rw [hst, if_pos hed]
            (repeat' ((try (conv => whnf)); first | (with_reducible first | refine And.intro ?_ ?_ | refine WX.of ?_) | exact zc | ((with_reducible refine VC.mk ?_); exact zw) | (with_reducible first | refine splitT ?_ | refine splitF ?_) | ((with_reducible refine splitM.mk (fun hsm => ?_) (fun hsm => ?_)) <;> (try exact zx)) | ((with_reducible refine splitB.mk (fun h => ?_) (fun h => ?_)) <;> (try simp only [zs, ne_eq] at h) <;> (try simp (disch := omega) only [w64] at h) <;> (try exact zx)) | (with_reducible intro hz; (try exact absurd hz (Nat.succ_ne_zero _)))))
          · have hk : decide (0 < cmpF (hal d).1 (hal d).2 (hal e).1 (hal e).2) = false := decide_eq_false fun h => hed (hgt.1 h)
            (repeat' ((try (conv => whnf)); first | (with_reducible first | refine And.intro ?_ ?_ | refine WX.of ?_) | exact zc | ((with_reducible refine VC.mk ?_); exact zw) | with_reducible refine atL_0 hdh ?_ | with_reducible refine atL_0 heh ?_ | ((with_reducible refine VC.mk ?_); exact ⟨hal_sm (by omega), hal_sm (by omega)⟩) | ((with_reducible refine splitT_of ?_ ?_); (focus (simp only [gt_iff_lt, hk, Bool.not_true, Bool.not_false, decide_true, decide_false]; done))) | ((with_reducible refine splitF_of ?_ ?_); (focus (simp only [gt_iff_lt, hk, Bool.not_true, Bool.not_false, decide_true, decide_false]; done))) | (with_reducible first | refine splitT ?_ | refine splitF ?_) | ((with_reducible refine splitM.mk (fun hsm => ?_) (fun hsm => ?_)) <;> (try exact zx)) | ((with_reducible refine splitB.mk (fun h => ?_) (fun h => ?_)) <;> (try simp only [zs, ne_eq] at h) <;> (try simp (disch := omega) only [w64] at h) <;> (try exact zx)) | (with_reducible intro hz; (try exact absurd hz (Nat.succ_ne_zero _)))))
            refine ⟨i + 1, by omega, hlt, ?_⟩
            rw [hst, if_neg hed]
            (repeat' ((try (conv => whnf)); first | (with_reducible first | refine And.intro ?_ ?_ | refine WX.of ?_) | exact zc | ((with_reducible refine VC.mk ?_); exact zw) | (with_reducible first | refine splitT ?_ | refine splitF ?_) | ((with_reducible refine splitM.mk (fun hsm => ?_) (fun hsm => ?_)) <;> (try exact zx)) | ((with_reducible refine splitB.mk (fun h => ?_) (fun h => ?_)) <;> (try simp only [zs, ne_eq] at h) <;> (try simp (disch := omega) only [w64] at h) <;> (try exact zx)) | (with_reducible intro hz; (try exact absurd hz (Nat.succ_ne_zero _)))))
        · obtain rfl : i = M.length := by omega
          obtain ⟨e, he⟩ := get_some (l := dst M) (i := farU (dst M) M.length) (farU_lt (by omega) _ (by omega))
          have heh : ((dst M).map hal)[farU (dst M) M.length]? = some (hal e) := by rw [List.getElem?_map, he]; rfl
          have hbe := hdb e (List.mem_of_getElem? he)
          have hfl := farU_lt (D := dst M) (by omega) M.length (by omega)
          have hsd : seg ((dst M).map hal) 0 M.length = (dst M).map hal := seg_full hdm
          have hsp : stpB times M = decide (2 * e ≤ times * twc (dst M)) := by unfold stpB; rw [gi_e he]
          have htb : -1000000000 ≤ times * twc (dst M) ∧ times * twc (dst M) ≤ 1000000000 := by
            have h1 : times * twc (dst M) ≤ 100 * 8000000 := Int.le_trans (Int.mul_le_mul_of_nonneg_left hmb.2 (by omega)) (Int.mul_le_mul_of_nonneg_right ht.2 (by omega))
            have h2 : 0 ≤ twc (dst M) := by
              have hs0 : (srt (dst M)).length = (dst M).length := srt_len _
              obtain ⟨u, hu⟩ := get_some (l := srt (dst M)) (i := ((dst M).length - 1) / 2) (by omega)
              obtain ⟨v, hv⟩ := get_some (l := srt (dst M)) (i := (dst M).length / 2) (by omega)
              have hbu := hdb u ((srt_perm _).mem_iff.1 (List.mem_of_getElem? hu))
              have hbv := hdb v ((srt_perm _).mem_iff.1 (List.mem_of_getElem? hv))
              have e : twc (dst M) = u + v := by unfold twc; rw [hu, hv]; rfl
              omega
            have h3 := Int.mul_nonneg (show 0 ≤ times by omega) h2
            omega
          have hmu := mul_4 htb
          have hms : smF (redP (twc (dst M)) 4) (redQ (twc (dst M)) 4) := smF_ok (redOk_small (by omega) (by omega))
          have hmt : smF (redP (times * twc (dst M)) 4) (redQ (times * twc (dst M)) 4) := smF_ok (redOk_small htb (by omega))
          have hle : cmpF (hal e).1 (hal e).2 (redP (times * twc (dst M)) 4) (redQ (times * twc (dst M)) 4) ≤ 0 ↔ 2 * e ≤ times * twc (dst M) := by rw [cmpF_le, far_test]
          by_cases hstop : 2 * e ≤ times * twc (dst M)
          · rw [lvo_brk (by rw [hsp]; exact decide_eq_true hstop)] at hl
            subst hl
            have hk : decide (cmpF (hal e).1 (hal e).2 (redP (times * twc (dst M)) 4) (redQ (times * twc (dst M)) 4) ≤ 0) = true := decide_eq_true (hle.2 hstop)
            (repeat' ((try (conv => whnf)); first | (with_reducible first | refine And.intro ?_ ?_ | refine WX.of ?_) | exact zc | ((with_reducible refine VC.mk ?_); exact zw) | with_reducible refine atL_0 heh ?_ | ((with_reducible refine VC.mk ?_); exact ⟨⟨by omega, hsd⟩, ⟨hdl.symm, hk3, by omega⟩, hdb2⟩) | ((with_reducible refine VC.mk ?_); exact ⟨rfl, smF_1 (by omega), hms⟩) | ((with_reducible refine VC.mk ?_); exact ⟨hal_sm (by omega), by rw [hmu.1, hmu.2.1]; exact hmt⟩) | ((with_reducible refine splitT_of ?_ ?_); (focus (simp only [hmu.1, hmu.2.1, hk, Bool.not_true, Bool.not_false, decide_true, decide_false]; done))) | ((with_reducible refine splitF_of ?_ ?_); (focus (simp only [hmu.1, hmu.2.1, hk, Bool.not_true, Bool.not_false, decide_true, decide_false]; done))) | (with_reducible first | refine splitT ?_ | refine splitF ?_) | ((with_reducible refine splitM.mk (fun hsm => ?_) (fun hsm => ?_)) <;> (try exact zx)) | ((with_reducible refine splitB.mk (fun h => ?_) (fun h => ?_)) <;> (try simp only [zs, ne_eq] at h) <;> (try simp (disch := omega) only [w64] at h) <;> (try exact zx)) | (with_reducible intro hz; (try exact absurd hz (Nat.succ_ne_zero _)))))
          · obtain ⟨k, rfl⟩ : ∃ j, k = j + 1 := ⟨k - 1, by omega⟩
            rw [lvo_go hgo (by rw [hsp]; exact decide_eq_false hstop)] at hl
            have hk : decide (cmpF (hal e).1 (hal e).2 (redP (times * twc (dst M)) 4) (redQ (times * twc (dst M)) 4) ≤ 0) = false := decide_eq_false fun h => hstop (hle.1 h)
            (repeat' ((try (conv => whnf)); first | (with_reducible first | refine And.intro ?_ ?_ | refine WX.of ?_) | exact zc | ((with_reducible refine VC.mk ?_); exact zw) | with_reducible refine atL_0 heh ?_ | ((with_reducible refine VC.mk ?_); exact ⟨⟨by omega, hsd⟩, ⟨hdl.symm, hk3, by omega⟩, hdb2⟩) | ((with_reducible refine VC.mk ?_); exact ⟨rfl, smF_1 (by omega), hms⟩) | ((with_reducible refine VC.mk ?_); exact ⟨hal_sm (by omega), by rw [hmu.1, hmu.2.1]; exact hmt⟩) | ((with_reducible refine splitT_of ?_ ?_); (focus (simp only [hmu.1, hmu.2.1, hk, Bool.not_true, Bool.not_false, decide_true, decide_false]; done))) | ((with_reducible refine splitF_of ?_ ?_); (focus (simp only [hmu.1, hmu.2.1, hk, Bool.not_true, Bool.not_false, decide_true, decide_false]; done))) | ((with_reducible refine VC.mk ?_); exact ⟨⟨rfl, rfl, rfl⟩, ⟨rfl, w64 (by omega), by omega⟩, by omega⟩) | (with_reducible first | refine splitT ?_ | refine splitF ?_) | ((with_reducible refine splitM.mk (fun hsm => ?_) (fun hsm => ?_)) <;> (try exact zx)) | ((with_reducible refine splitB.mk (fun h => ?_) (fun h => ?_)) <;> (try simp only [zs, ne_eq] at h) <;> (try simp (disch := omega) only [w64] at h) <;> (try exact zx)) | (with_reducible intro hz; (try exact absurd hz (Nat.succ_ne_zero _)))))
            have hle2 : (M.eraseIdx (farU (dst M) M.length)).length = M.length - 1 := by rw [List.length_eraseIdx, if_pos (by omega)]
            have hz : n - M.length + 1 = n - (M.length - 1) := by omega
            refine ⟨(k, M.eraseIdx (farU (dst M) M.length)), Nat.lt_succ_self k, ⟨⟨⟨by rw [hle2]; omega, by dsimp only; omega⟩, by rw [hle2]; omega⟩, hl, fun a ha => hbM a (List.mem_of_mem_eraseIdx ha)⟩, ?_⟩
            rw [hle2, hz]
            (repeat' ((try (conv => whnf)); first | (with_reducible first | refine And.intro ?_ ?_ | refine WX.of ?_) | exact zc | ((with_reducible refine VC.mk ?_); exact zw) | (with_reducible first | refine splitT ?_ | refine splitF ?_) | ((with_reducible refine splitM.mk (fun hsm => ?_) (fun hsm => ?_)) <;> (try exact zx)) | ((with_reducible refine splitB.mk (fun h => ?_) (fun h => ?_)) <;> (try simp only [zs, ne_eq] at h) <;> (try simp (disch := omega) only [w64] at h) <;> (try exact zx)) | (with_reducible intro hz; (try exact absurd hz (Nat.succ_ne_zero _)))))
            all_goals exact ⟨by rw [hmu.2.2]; rfl⟩
    · have hkg : decide (IntKind.i64.wrap (IntKind.i64.wrap ((n : Int).tdiv 2) + 1) < (M.length : Int)) = false := by rw [hq]; exact decide_eq_false (by omega)
      rw [lvo_stop hgo] at hl
      subst hl
      (repeat' ((try (conv => whnf)); first | (with_reducible first | refine And.intro ?_ ?_ | refine WX.of ?_) | exact zc | ((with_reducible refine VC.mk ?_); exact zw) | ((with_reducible refine splitT_of ?_ ?_); (focus (simp only [hkg, Bool.not_true, Bool.not_false, decide_true, decide_false]; done))) | ((with_reducible refine splitF_of ?_ ?_); (focus (simp only [hkg, Bool.not_true, Bool.not_false, decide_true, decide_false]; done))) | (with_reducible first | refine splitT ?_ | refine splitF ?_) | ((with_reducible refine splitM.mk (fun hsm => ?_) (fun hsm => ?_)) <;> (try exact zx)) | ((with_reducible refine splitB.mk (fun h => ?_) (fun h => ?_)) <;> (try simp only [zs, ne_eq] at h) <;> (try simp (disch := omega) only [w64] at h) <;> (try exact zx)) | (with_reducible intro hz; (try exact absurd hz (Nat.succ_ne_zero _)))))
def s_lv0 : Spec := fun args S => match args, S with
  | [.sl 0 s n x, .int .i64 times], [.arr (.int .i64) l 1 wr] => ⟨(s + n ≤ l.length ∧ n ≤ 1048576) ∧ lvOk (seg l s n) times = false, .tup [.nils, .int .i64 2], [.arr (.int .i64) l 1 wr]⟩
  | _, _ => noSpec
theorem ok_LeaveOutI0 : SpecOk Try.prog 17 s_lv0 := by
  intro args S h; unfold s_lv0 at h ⊢; (split at h <;> first | exact False.elim h | skip)
  dsimp only at h ⊢
  rename_i s n x times l wr
  obtain ⟨⟨h1, h2⟩, ho⟩ := h
  unfold lvOk at ho
  have hL := seg_len h1
  refine funW tabOk (E := [(24, s_are), (25, s_within)]) ⟨ok_areReadings, ok_within, trivial⟩ [(12, [(3, 1), (3, 2), (3, 3)])] (k := 1) (fn := Try.f17) rfl rfl rfl rfl rfl rfl ?_
  cases hA : areB (seg l s n) with
  | false =>
    (repeat' ((try (conv => whnf)); first | (with_reducible first | refine And.intro ?_ ?_ | refine WX.of ?_) | exact zc | ((with_reducible refine VC.mk ?_); exact zw) | ((with_reducible refine splitT_of ?_ ?_); (focus (simp only [hA, Bool.not_true, Bool.not_false, decide_true, decide_false]; done))) | ((with_reducible refine splitF_of ?_ ?_); (focus (simp only [hA, Bool.not_true, Bool.not_false, decide_true, decide_false]; done))) | (with_reducible first | refine splitT ?_ | refine splitF ?_) | ((with_reducible refine splitM.mk (fun hsm => ?_) (fun hsm => ?_)) <;> (try exact zx)) | ((with_reducible refine splitB.mk (fun h => ?_) (fun h => ?_)) <;> (try simp only [zs, ne_eq] at h) <;> (try simp (disch := omega) only [w64] at h) <;> (try exact zx)) | (with_reducible intro hz; (try exact absurd hz (Nat.succ_ne_zero _)))))
  | true =>
    rw [hA, Bool.true_and] at ho
    (repeat' ((try (conv => whnf)); first | (with_reducible first | refine And.intro ?_ ?_ | refine WX.of ?_) | exact zc | ((with_reducible refine VC.mk ?_); exact zw) | ((with_reducible refine splitT_of ?_ ?_); (focus (simp only [hA, ho, Bool.not_true, Bool.not_false, decide_true, decide_false]; done))) | ((with_reducible refine splitF_of ?_ ?_); (focus (simp only [hA, ho, Bool.not_true, Bool.not_false, decide_true, decide_false]; done))) | (with_reducible first | refine splitT ?_ | refine splitF ?_) | ((with_reducible refine splitM.mk (fun hsm => ?_) (fun hsm => ?_)) <;> (try exact zx)) | ((with_reducible refine splitB.mk (fun h => ?_) (fun h => ?_)) <;> (try simp only [zs, ne_eq] at h) <;> (try simp (disch := omega) only [w64] at h) <;> (try exact zx)) | (with_reducible intro hz; (try exact absurd hz (Nat.succ_ne_zero _)))))
end Go.Proofs.Ytiojoddcckhjdaa.Eng
set_option linter.unusedVariables false
set_option linter.unusedSimpArgs false
namespace Go.Proofs.Ytiojoddcckhjdaa.Eng
open Go Go.RowKit
set_option maxRecDepth 100000
/-- A row of marks: from k on, c to an element. -/
def marks {α : Type} (f : Int → α) (c : Nat) (k : Int) (n : Nat) : List α := (List.range n).map fun i : Nat => f (k + c * (i : Int))
theorem marks_len {α : Type} {f : Int → α} {c : Nat} {k : Int} {n : Nat} : (marks f c k n).length = n := by simp [marks]
theorem marks_get {α : Type} {f : Int → α} {c : Nat} {k : Int} {n i : Nat} (h : i < n) : (marks f c k n)[i]? = some (f (k + c * i)) := by
  unfold marks
  rw [List.getElem?_map, List.getElem?_range h]; rfl
theorem mark_at {α : Type} {M l : List α} {i : Nat} {a : α} (hm : M.length = l.length) (ha : l[i]? = some a) : (M.take i ++ l.drop i)[i]? = some a := by
  have hi := (List.getElem?_eq_some_iff.1 ha).1
  rw [List.getElem?_append_right (by rw [List.length_take]; omega), List.length_take, show i - min i M.length = 0 by omega, List.getElem?_drop]; exact ha
theorem mark_step {α : Type} {M l : List α} {i : Nat} {b : α} (hm : M.length = l.length) (hb : M[i]? = some b) : (M.take i ++ l.drop i).set i b = M.take (i + 1) ++ l.drop (i + 1) := by
  have hi := (List.getElem?_eq_some_iff.1 hb).1
  have h1 : (M.take i).length = i := by rw [List.length_take]; omega
  rw [List.set_append_right _ _ (by omega), h1, Nat.sub_self, List.take_add_one, hb, List.drop_eq_getElem_cons (show i < l.length by omega), List.set_cons_zero]
  simp
theorem mark_end {α : Type} {M l : List α} {n : Nat} (hm : M.length = n) (hl : l.length = n) : M.take n ++ l.drop n = M := by
  rw [List.take_of_length_le (by omega), List.drop_eq_nil_of_le (by omega), List.append_nil]
theorem atL_set {α : Type} {l : List α} {i : Nat} {b : α} {K : α → Prop} (hl : i < l.length) (h : K b) : atL (l.set (0 + ((i : Nat) : Int).toNat) b) (0 + ((i : Nat) : Int).toNat) K :=
  atL_iff.2 ⟨b, by simp [hl], h⟩
end Go.Proofs.Ytiojoddcckhjdaa.Eng
set_option linter.unusedVariables false
set_option linter.unusedSimpArgs false
namespace Go.Proofs.Ytiojoddcckhjdaa.Eng
open Go Go.RowKit
set_option maxRecDepth 100000
def s_markInt64S : Spec := fun args S => match args, S with
  | [.sl 0 0 n x, .int .i64 k], [.arr (.int .i64) l 1 true] => ⟨n = l.length ∧ n ≤ 1048576 ∧ 0 ≤ k ∧ k ≤ 1099511627776, .int .i64 (k + 1 * n), [.arr (.int .i64) (marks (fun k => k) 1 k n) 1 true]⟩
  | [.nils, .int .i64 k], [] => ⟨True, .int .i64 k, []⟩
  | _, _ => noSpec
theorem ok_markInt64S : SpecOk Try.prog 18 s_markInt64S := by
  intro args S h; unfold s_markInt64S at h ⊢; (split at h <;> first | exact False.elim h | skip)
  dsimp only at h ⊢
  · rename_i n x k l
    obtain ⟨hn, h1, h2, h3⟩ := h
    have hm : (marks (α := ET.T (.int .i64)) (fun k => k) 1 k n).length = l.length := by rw [marks_len]; exact hn
    refine funW tabOk (E := []) trivial [] (k := 1) (fn := Try.f18) rfl rfl rfl rfl rfl rfl ?_
    (repeat' ((try (conv => whnf)); first | (with_reducible first | refine And.intro ?_ ?_ | refine WX.of ?_) | exact zc | ((with_reducible refine VC.mk ?_); exact zw) | (with_reducible first | refine splitT ?_ | refine splitF ?_) | ((with_reducible refine splitM.mk (fun hsm => ?_) (fun hsm => ?_)) <;> (try exact zx)) | ((with_reducible refine splitB.mk (fun h => ?_) (fun h => ?_)) <;> (try simp only [zs, ne_eq] at h) <;> (try simp (disch := omega) only [w64] at h) <;> (try exact zx)) | (with_reducible intro hz; (try exact absurd hz (Nat.succ_ne_zero _)))))
    refine loopW tabOk (E := []) trivial [] (σ := Nat) (fun i => [(0, .sl 0 0 n x), (1, .int .i64 (k + 1 * i)), (5, .int .i64 i)]) (fun i => [.arr (.int .i64) ((marks (fun k => k) 1 k n).take i ++ l.drop i) 1 true]) (fun i => n - i) (fun i => i ≤ n) 0 (Nat.zero_le _) ?_ ?_
    · (repeat' ((try (conv => whnf)); first | (with_reducible first | refine And.intro ?_ ?_ | refine WX.of ?_) | exact zc | ((with_reducible refine VC.mk ?_); exact zw) | (with_reducible first | refine splitT ?_ | refine splitF ?_) | ((with_reducible refine splitM.mk (fun hsm => ?_) (fun hsm => ?_)) <;> (try exact zx)) | ((with_reducible refine splitB.mk (fun h => ?_) (fun h => ?_)) <;> (try simp only [zs, ne_eq] at h) <;> (try simp (disch := omega) only [w64] at h) <;> (try exact zx)) | (with_reducible intro hz; (try exact absurd hz (Nat.succ_ne_zero _)))))
    · intro i hi
      by_cases hlt : i < n
      · obtain ⟨a, ha⟩ := get_some (l := l) (i := i) (by omega)
        have hb := marks_get (α := ET.T (.int .i64)) (f := (fun k => k)) (c := 1) (k := k) hlt
        (repeat' ((try (conv => whnf)); first | (with_reducible first | refine And.intro ?_ ?_ | refine WX.of ?_) | exact zc | ((with_reducible refine VC.mk ?_); exact zw) | ((with_reducible refine atL_set ?_ ?_); (simp only [List.length_set, List.length_append, List.length_take, List.length_drop]; omega)) | with_reducible refine atL_0 (mark_at hm ha) ?_ | (with_reducible first | refine splitT ?_ | refine splitF ?_) | ((with_reducible refine splitM.mk (fun hsm => ?_) (fun hsm => ?_)) <;> (try exact zx)) | ((with_reducible refine splitB.mk (fun h => ?_) (fun h => ?_)) <;> (try simp only [zs, ne_eq] at h) <;> (try simp (disch := omega) only [w64] at h) <;> (try exact zx)) | (with_reducible intro hz; (try exact absurd hz (Nat.succ_ne_zero _)))))
        refine ⟨i + 1, by omega, hlt, ?_⟩
        (repeat' ((try (conv => whnf)); first | (with_reducible first | refine And.intro ?_ ?_ | refine WX.of ?_) | exact zc | ((with_reducible refine VC.mk ?_); exact zw) | (with_reducible first | refine splitT ?_ | refine splitF ?_) | ((with_reducible refine splitM.mk (fun hsm => ?_) (fun hsm => ?_)) <;> (try exact zx)) | ((with_reducible refine splitB.mk (fun h => ?_) (fun h => ?_)) <;> (try simp only [zs, ne_eq] at h) <;> (try simp (disch := omega) only [w64] at h) <;> (try exact zx)) | (with_reducible intro hz; (try exact absurd hz (Nat.succ_ne_zero _)))))
        refine ⟨?_⟩
        (try simp (disch := omega) only [w64])
        simp only [List.set_set, Nat.zero_add, Int.toNat_natCast]
        (try rw [mark_step hm hb])
        exact mark_step hm hb
      · (repeat' ((try (conv => whnf)); first | (with_reducible first | refine And.intro ?_ ?_ | refine WX.of ?_) | exact zc | ((with_reducible refine VC.mk ?_); exact zw) | (with_reducible first | refine splitT ?_ | refine splitF ?_) | ((with_reducible refine splitM.mk (fun hsm => ?_) (fun hsm => ?_)) <;> (try exact zx)) | ((with_reducible refine splitB.mk (fun h => ?_) (fun h => ?_)) <;> (try simp only [zs, ne_eq] at h) <;> (try simp (disch := omega) only [w64] at h) <;> (try exact zx)) | (with_reducible intro hz; (try exact absurd hz (Nat.succ_ne_zero _)))))
        obtain rfl : i = n := by omega
        exact ⟨by rw [mark_end marks_len hn.symm]⟩
  · refine funW tabOk (E := []) trivial [] (k := 0) (fn := Try.f18) rfl rfl rfl rfl rfl rfl ?_
    (repeat' ((try (conv => whnf)); first | (with_reducible first | refine And.intro ?_ ?_ | refine WX.of ?_) | exact zc | ((with_reducible refine VC.mk ?_); exact zw) | (with_reducible first | refine splitT ?_ | refine splitF ?_) | ((with_reducible refine splitM.mk (fun hsm => ?_) (fun hsm => ?_)) <;> (try exact zx)) | ((with_reducible refine splitB.mk (fun h => ?_) (fun h => ?_)) <;> (try simp only [zs, ne_eq] at h) <;> (try simp (disch := omega) only [w64] at h) <;> (try exact zx)) | (with_reducible intro hz; (try exact absurd hz (Nat.succ_ne_zero _)))))
    refine loop1 tabOk (E := []) trivial [] ?_
    (repeat' ((try (conv => whnf)); first | (with_reducible first | refine And.intro ?_ ?_ | refine WX.of ?_) | exact zc | ((with_reducible refine VC.mk ?_); exact zw) | (with_reducible first | refine splitT ?_ | refine splitF ?_) | ((with_reducible refine splitM.mk (fun hsm => ?_) (fun hsm => ?_)) <;> (try exact zx)) | ((with_reducible refine splitB.mk (fun h => ?_) (fun h => ?_)) <;> (try simp only [zs, ne_eq] at h) <;> (try simp (disch := omega) only [w64] at h) <;> (try exact zx)) | (with_reducible intro hz; (try exact absurd hz (Nat.succ_ne_zero _)))))
def s_heldInt64S : Spec := fun args S => match args, S with
  | [.sl 0 0 n x, .int .i64 k], [.arr (.int .i64) l 1 wr] => ⟨l = marks (fun k => k) 1 k n ∧ n ≤ 1048576 ∧ 0 ≤ k ∧ k ≤ 1099511627776, .int .i64 (k + 1 * n), [.arr (.int .i64) l 1 wr]⟩
  | [.nils, .int .i64 k], [] => ⟨True, .int .i64 k, []⟩
  | _, _ => noSpec
theorem ok_heldInt64S : SpecOk Try.prog 19 s_heldInt64S := by
  intro args S h; unfold s_heldInt64S at h ⊢; (split at h <;> first | exact False.elim h | skip)
  dsimp only at h ⊢
  · rename_i n x k l wr
    obtain ⟨rfl, h1, h2, h3⟩ := h
    refine funW tabOk (E := []) trivial [] (k := 1) (fn := Try.f19) rfl rfl rfl rfl rfl rfl ?_
    (repeat' ((try (conv => whnf)); first | (with_reducible first | refine And.intro ?_ ?_ | refine WX.of ?_) | exact zc | ((with_reducible refine VC.mk ?_); exact zw) | (with_reducible first | refine splitT ?_ | refine splitF ?_) | ((with_reducible refine splitM.mk (fun hsm => ?_) (fun hsm => ?_)) <;> (try exact zx)) | ((with_reducible refine splitB.mk (fun h => ?_) (fun h => ?_)) <;> (try simp only [zs, ne_eq] at h) <;> (try simp (disch := omega) only [w64] at h) <;> (try exact zx)) | (with_reducible intro hz; (try exact absurd hz (Nat.succ_ne_zero _)))))
    refine loopW tabOk (E := []) trivial [] (σ := Nat) (fun i => [(0, .sl 0 0 n x), (1, .int .i64 (k + 1 * i)), (5, .int .i64 i)]) (fun i => [.arr (.int .i64) (marks (fun k => k) 1 k n) 1 wr]) (fun i => n - i) (fun i => i ≤ n) 0 (Nat.zero_le _) ?_ ?_
    · (repeat' ((try (conv => whnf)); first | (with_reducible first | refine And.intro ?_ ?_ | refine WX.of ?_) | exact zc | ((with_reducible refine VC.mk ?_); exact zw) | (with_reducible first | refine splitT ?_ | refine splitF ?_) | ((with_reducible refine splitM.mk (fun hsm => ?_) (fun hsm => ?_)) <;> (try exact zx)) | ((with_reducible refine splitB.mk (fun h => ?_) (fun h => ?_)) <;> (try simp only [zs, ne_eq] at h) <;> (try simp (disch := omega) only [w64] at h) <;> (try exact zx)) | (with_reducible intro hz; (try exact absurd hz (Nat.succ_ne_zero _)))))
    · intro i hi
      by_cases hlt : i < n
      · have hb := marks_get (α := ET.T (.int .i64)) (f := (fun k => k)) (c := 1) (k := k) hlt
        (try dsimp only at hb)
        (repeat' ((try (conv => whnf)); first | (with_reducible first | refine And.intro ?_ ?_ | refine WX.of ?_) | exact zc | ((with_reducible refine VC.mk ?_); exact zw) | with_reducible refine atL_0 hb ?_ | (with_reducible first | refine splitT ?_ | refine splitF ?_) | ((with_reducible refine splitM.mk (fun hsm => ?_) (fun hsm => ?_)) <;> (try exact zx)) | ((with_reducible refine splitB.mk (fun h => ?_) (fun h => ?_)) <;> (try simp only [zs, ne_eq] at h) <;> (try simp (disch := omega) only [w64] at h) <;> (try exact zx)) | (with_reducible intro hz; (try exact absurd hz (Nat.succ_ne_zero _)))))
        refine ⟨i + 1, by omega, hlt, ?_⟩
        (repeat' ((try (conv => whnf)); first | (with_reducible first | refine And.intro ?_ ?_ | refine WX.of ?_) | exact zc | ((with_reducible refine VC.mk ?_); exact zw) | (with_reducible first | refine splitT ?_ | refine splitF ?_) | ((with_reducible refine splitM.mk (fun hsm => ?_) (fun hsm => ?_)) <;> (try exact zx)) | ((with_reducible refine splitB.mk (fun h => ?_) (fun h => ?_)) <;> (try simp only [zs, ne_eq] at h) <;> (try simp (disch := omega) only [w64] at h) <;> (try exact zx)) | (with_reducible intro hz; (try exact absurd hz (Nat.succ_ne_zero _)))))
      · obtain rfl : i = n := by omega
        (repeat' ((try (conv => whnf)); first | (with_reducible first | refine And.intro ?_ ?_ | refine WX.of ?_) | exact zc | ((with_reducible refine VC.mk ?_); exact zw) | (with_reducible first | refine splitT ?_ | refine splitF ?_) | ((with_reducible refine splitM.mk (fun hsm => ?_) (fun hsm => ?_)) <;> (try exact zx)) | ((with_reducible refine splitB.mk (fun h => ?_) (fun h => ?_)) <;> (try simp only [zs, ne_eq] at h) <;> (try simp (disch := omega) only [w64] at h) <;> (try exact zx)) | (with_reducible intro hz; (try exact absurd hz (Nat.succ_ne_zero _)))))
  · refine funW tabOk (E := []) trivial [] (k := 0) (fn := Try.f19) rfl rfl rfl rfl rfl rfl ?_
    (repeat' ((try (conv => whnf)); first | (with_reducible first | refine And.intro ?_ ?_ | refine WX.of ?_) | exact zc | ((with_reducible refine VC.mk ?_); exact zw) | (with_reducible first | refine splitT ?_ | refine splitF ?_) | ((with_reducible refine splitM.mk (fun hsm => ?_) (fun hsm => ?_)) <;> (try exact zx)) | ((with_reducible refine splitB.mk (fun h => ?_) (fun h => ?_)) <;> (try simp only [zs, ne_eq] at h) <;> (try simp (disch := omega) only [w64] at h) <;> (try exact zx)) | (with_reducible intro hz; (try exact absurd hz (Nat.succ_ne_zero _)))))
    refine loop1 tabOk (E := []) trivial [] ?_
    (repeat' ((try (conv => whnf)); first | (with_reducible first | refine And.intro ?_ ?_ | refine WX.of ?_) | exact zc | ((with_reducible refine VC.mk ?_); exact zw) | (with_reducible first | refine splitT ?_ | refine splitF ?_) | ((with_reducible refine splitM.mk (fun hsm => ?_) (fun hsm => ?_)) <;> (try exact zx)) | ((with_reducible refine splitB.mk (fun h => ?_) (fun h => ?_)) <;> (try simp only [zs, ne_eq] at h) <;> (try simp (disch := omega) only [w64] at h) <;> (try exact zx)) | (with_reducible intro hz; (try exact absurd hz (Nat.succ_ne_zero _)))))
end Go.Proofs.Ytiojoddcckhjdaa.Eng
set_option linter.unusedVariables false
set_option linter.unusedSimpArgs false
namespace Go.Proofs.Ytiojoddcckhjdaa.Eng
open Go Go.RowKit
set_option maxRecDepth 100000
theorem er_d {M : List Int} {f : Nat} (hf : f < M.length) : seg M (0 + (f + 1)) (M.length - (f + 1)) = M.drop (f + 1) := by
  unfold seg; rw [Nat.zero_add, List.take_of_length_le (by rw [List.length_drop]; omega)]
theorem er_t {M : List Int} {f : Nat} : seg M 0 f = M.take f := by unfold seg; rw [List.drop_zero]
theorem er_a {M : List Int} {f : Nat} (h0 : f = 0) (hf : f < M.length) : seg [] 0 0 ++ seg M (0 + (f + 1)) (M.length - (f + 1)) = M.eraseIdx f := by
  rw [er_d hf, List.eraseIdx_eq_take_drop_succ, h0]; rfl
theorem er_b {M : List Int} {f : Nat} (h0 : M.length - (f + 1) = 0) (hf : f < M.length) : seg [] 0 0 ++ seg M 0 f = M.eraseIdx f := by
  rw [er_t, List.eraseIdx_eq_take_drop_succ, show M.drop (f + 1) = [] from List.drop_eq_nil_of_le (by omega), List.append_nil]; rfl
theorem er_c {M : List Int} {f : Nat} (hf : f < M.length) : seg (seg [] 0 0 ++ seg M 0 f) 0 (0 + f) ++ seg M (0 + (f + 1)) (M.length - (f + 1)) = M.eraseIdx f := by
  have e : seg ([] : List Int) 0 0 ++ seg M 0 f = M.take f := by rw [er_t]; rfl
  rw [er_d hf, e, List.eraseIdx_eq_take_drop_succ, Nat.zero_add, seg_full (by rw [List.length_take]; omega)]
def s_lvS1 : Spec := fun args S => match args, S with
  | [.sl 0 s n x, .int .i64 times], [.arr (.int .i64) l 1 wr] => ⟨(s + n ≤ l.length ∧ n ≤ 1048576) ∧ lvOk (seg l s n) times = true, .tup [.sl 1 0 (lvF (seg l s n) times).length 0, .int .i64 0], [.arr (.int .i64) l 1 wr, .arr (.int .i64) (lvF (seg l s n) times) 1 true]⟩
  | _, _ => noSpec
theorem twc_nn {L : List Int} (hb : ∀ a ∈ L, 0 ≤ a) (h1 : 1 ≤ L.length) : 0 ≤ twc L := by
  have hs0 : (srt L).length = L.length := srt_len _
  obtain ⟨u, hu⟩ := get_some (l := srt L) (i := (L.length - 1) / 2) (by omega)
  obtain ⟨v, hv⟩ := get_some (l := srt L) (i := L.length / 2) (by omega)
  have hbu := hb u ((srt_perm _).mem_iff.1 (List.mem_of_getElem? hu))
  have hbv := hb v ((srt_perm _).mem_iff.1 (List.mem_of_getElem? hv))
  have e : twc L = u + v := by unfold twc; rw [hu, hv]; rfl
  omega
theorem tim_b {times t : Int} (h1 : 1 ≤ times ∧ times ≤ 100) (h2 : 0 ≤ t ∧ t ≤ 8000000) : 0 ≤ times * t ∧ times * t ≤ 1000000000 := by
  have a := Int.mul_nonneg (show 0 ≤ times by omega) h2.1
  have b : times * t ≤ 100 * 8000000 := Int.le_trans (Int.mul_le_mul_of_nonneg_left h2.2 (by omega)) (Int.mul_le_mul_of_nonneg_right h1.2 (by omega))
  omega
theorem ok_LeaveOutS1 : SpecOk Try.prog 16 s_lvS1 := by
  intro args S h; unfold s_lvS1 at h ⊢; (split at h <;> first | exact False.elim h | skip)
  dsimp only at h ⊢
  rename_i s n x times l wr
  obtain ⟨⟨h1, h2⟩, ho⟩ := h
  have hL := seg_len h1
  unfold lvOk at ho
  rw [Bool.and_eq_true, decide_eq_true_iff] at ho
  obtain ⟨hA, ht⟩ := ho
  have hc : areCode (seg l s n) = 0 := code_0.2 hA
  have hn := are_len hA
  rw [hL] at hn
  have hb := are_b hA
  have hq : IntKind.i64.wrap (IntKind.i64.wrap ((n : Int).tdiv 2) + 1) = ((n / 2 + 1 : Nat) : Int) := by
    rw [Int.tdiv_eq_ediv_of_nonneg (by omega), w64 (n := (n : Int) / 2) (by omega), w64 (by omega)]; omega
  have hF : lvo times (n / 2 + 1) n (seg l s n) = lvF (seg l s n) times := by unfold lvF; rw [hL]
  generalize lvF (seg l s n) times = F at *
  have hkt : decide (1 ≤ times ∧ times ≤ 100) = true := decide_eq_true ht
  refine funW tabOk (E := [(20, s_l06List), (21, s_within)]) ⟨ok_l06List, ok_l00In, trivial⟩ [(15, [(3, 1)]), (16, [(3, 0), (8, 0), (8, 1)])] (k := 1) (fn := Try.f16) rfl rfl rfl rfl rfl rfl ?_
  (repeat' ((try (conv => whnf)); first | (with_reducible first | refine And.intro ?_ ?_ | refine WX.of ?_) | exact zc | ((with_reducible refine VC.mk ?_); exact zw) | ((with_reducible refine splitT_of ?_ ?_); (focus (simp only [hc, hkt, ne_eq, not_true_eq_false, Bool.not_true, Bool.not_false, decide_true, decide_false]; done))) | ((with_reducible refine splitF_of ?_ ?_); (focus (simp only [hc, hkt, ne_eq, not_true_eq_false, Bool.not_true, Bool.not_false, decide_true, decide_false]; done))) | (with_reducible first | refine splitT ?_ | refine splitF ?_) | ((with_reducible refine splitM.mk (fun hsm => ?_) (fun hsm => ?_)) <;> (try exact zx)) | ((with_reducible refine splitB.mk (fun h => ?_) (fun h => ?_)) <;> (try simp only [zs, ne_eq] at h) <;> (try simp (disch := omega) only [w64] at h) <;> (try exact zx)) | (with_reducible intro hz; (try exact absurd hz (Nat.succ_ne_zero _)))))
  · exfalso; omega
  · refine loopWs tabOk (fun _k => [(33, s_dstS), (29, s_twc)]) (fun _k => ⟨ok_dstS, ok_l06Twice, trivial⟩) [(15, [(3, 1)]), (16, [(3, 0), (8, 0), (8, 1)])] (σ := Nat × List Int) (fun k => [(0, .sl 0 s n x), (1, .int .i64 times), (7, .sl 1 0 k.2.length 0)]) (fun k => [.arr (.int .i64) l 1 wr, .arr (.int .i64) k.2 1 true]) (fun k => k.1) (fun k => ((k.2.length ≤ k.1 ∧ k.1 ≤ n) ∧ 1 ≤ k.2.length) ∧ lvo times (n / 2 + 1) k.1 k.2 = F ∧ ∀ a ∈ k.2, -1000000 ≤ a ∧ a ≤ 1000000) (n, seg l s n) ⟨⟨⟨Nat.le_of_eq hL, Nat.le_refl _⟩, by dsimp only; omega⟩, hF, hb⟩ ?_ ?_
    · (repeat' ((try (conv => whnf)); first | (with_reducible first | refine And.intro ?_ ?_ | refine WX.of ?_) | exact zc | ((with_reducible refine VC.mk ?_); exact zw) | (with_reducible first | refine splitT ?_ | refine splitF ?_) | ((with_reducible refine splitM.mk (fun hsm => ?_) (fun hsm => ?_)) <;> (try exact zx)) | ((with_reducible refine splitB.mk (fun h => ?_) (fun h => ?_)) <;> (try simp only [zs, ne_eq] at h) <;> (try simp (disch := omega) only [w64] at h) <;> (try exact zx)) | (with_reducible intro hz; (try exact absurd hz (Nat.succ_ne_zero _)))))
    · intro ⟨k, M⟩ ⟨⟨⟨hk1, hk2⟩, hk3⟩, hl, hbM⟩
      dsimp only at hk1 hk2 hk3 hl hbM ⊢
      by_cases hgo : n / 2 + 1 < M.length
      · have hkg : decide (IntKind.i64.wrap (IntKind.i64.wrap ((n : Int).tdiv 2) + 1) < (M.length : Int)) = true := by rw [hq]; exact decide_eq_true (by omega)
        have hsM : seg M 0 M.length = M := seg_all M
        have hdl : (dst M).length = M.length := dst_len M
        have hdb := dst_b hbM (by omega)
        have hmb := twc_bd (L := dst M) (B := 4000000) (fun a ha => by have := hdb a ha; omega) (by omega)
        have hm0 := twc_nn (L := dst M) (fun a ha => (hdb a ha).1) (by omega)
        have hsd : seg (dst M) 0 M.length = dst M := seg_full hdl
        (repeat' ((try (conv => whnf)); first | (with_reducible first | refine And.intro ?_ ?_ | refine WX.of ?_) | exact zc | ((with_reducible refine VC.mk ?_); exact zw) | ((with_reducible refine splitT_of ?_ ?_); (focus (simp only [hkg, Bool.not_true, Bool.not_false, decide_true, decide_false]; done))) | ((with_reducible refine splitF_of ?_ ?_); (focus (simp only [hkg, Bool.not_true, Bool.not_false, decide_true, decide_false]; done))) | ((with_reducible refine VC.mk ?_); exact ⟨⟨by omega, hk3, by omega⟩, by rw [hsM]; exact hbM⟩) | (with_reducible first | refine splitT ?_ | refine splitF ?_) | ((with_reducible refine splitM.mk (fun hsm => ?_) (fun hsm => ?_)) <;> (try exact zx)) | ((with_reducible refine splitB.mk (fun h => ?_) (fun h => ?_)) <;> (try simp only [zs, ne_eq] at h) <;> (try simp (disch := omega) only [w64] at h) <;> (try exact zx)) | (with_reducible intro hz; (try exact absurd hz (Nat.succ_ne_zero _)))))
        refine loopWs tabOk (fun _k => [(29, s_twc)]) (fun _k => ⟨ok_l06Twice, trivial⟩) [(15, [(3, 1)]), (16, [(3, 0), (8, 0), (8, 1)])] (σ := Nat) (fun i => [(0, .sl 0 s n x), (1, .int .i64 times), (7, .sl 1 0 M.length 0), (8, .sl 2 0 M.length 0), (9, .int .i64 (farU (dst M) i)), (10, .int .i64 i)]) (fun i => [.arr (.int .i64) l 1 wr, .arr (.int .i64) M 1 true, .arr (.int .i64) (dst M) 1 true]) (fun i => M.length - i) (fun i => 1 ≤ i ∧ i ≤ M.length) 1 ⟨Nat.le_refl _, hk3⟩ ?_ ?_
        · rw [farU_1]
          (repeat' ((try (conv => whnf)); first | (with_reducible first | refine And.intro ?_ ?_ | refine WX.of ?_) | exact zc | ((with_reducible refine VC.mk ?_); exact zw) | (with_reducible first | refine splitT ?_ | refine splitF ?_) | ((with_reducible refine splitM.mk (fun hsm => ?_) (fun hsm => ?_)) <;> (try exact zx)) | ((with_reducible refine splitB.mk (fun h => ?_) (fun h => ?_)) <;> (try simp only [zs, ne_eq] at h) <;> (try simp (disch := omega) only [w64] at h) <;> (try exact zx)) | (with_reducible intro hz; (try exact absurd hz (Nat.succ_ne_zero _)))))
          all_goals (first | exact ⟨by rw [hsM]⟩ | trace_state)
        · intro i ⟨hi0, hi⟩
          by_cases hlt : i < M.length
          · obtain ⟨d, hd⟩ := get_some (l := dst M) (i := i) (by omega)
            obtain ⟨e, he⟩ := get_some (l := dst M) (i := farU (dst M) i) (farU_lt (by omega) i (by omega))
            have hfl := farU_lt (D := dst M) (by omega) i (by omega)
            have hst : farU (dst M) (i + 1) = if e < d then i else farU (dst M) i := by
              conv => lhs; unfold farU
              rw [gi_e he, gi_e hd]
            by_cases hed : e < d
            · have hk : decide (e < d) = true := decide_eq_true hed
              (repeat' ((try (conv => whnf)); first | (with_reducible first | refine And.intro ?_ ?_ | refine WX.of ?_) | exact zc | ((with_reducible refine VC.mk ?_); exact zw) | with_reducible refine atL_0 hd ?_ | with_reducible refine atL_0 he ?_ | ((with_reducible refine splitT_of ?_ ?_); (focus (simp only [gt_iff_lt, hk, Bool.not_true, Bool.not_false, decide_true, decide_false]; done))) | ((with_reducible refine splitF_of ?_ ?_); (focus (simp only [gt_iff_lt, hk, Bool.not_true, Bool.not_false, decide_true, decide_false]; done))) | (with_reducible first | refine splitT ?_ | refine splitF ?_) | ((with_reducible refine splitM.mk (fun hsm => ?_) (fun hsm => ?_)) <;> (try exact zx)) | ((with_reducible refine splitB.mk (fun h => ?_) (fun h => ?_)) <;> (try simp only [zs, ne_eq] at h) <;> (try simp (disch := omega) only [w64] at h) <;> (try exact zx)) | (with_reducible intro hz; (try exact absurd hz (Nat.succ_ne_zero _)))))
              refine ⟨i + 1, by omega, ⟨by omega, hlt⟩, ?_⟩
              rw [hst, if_pos hed]
              (repeat' ((try (conv => whnf)); first | (with_reducible first | refine And.intro ?_ ?_ | refine WX.of ?_) | exact zc | ((with_reducible refine VC.mk ?_); exact zw) | (with_reducible first | refine splitT ?_ | refine splitF ?_) | ((with_reducible refine splitM.mk (fun hsm => ?_) (fun hsm => ?_)) <;> (try exact zx)) | ((with_reducible refine splitB.mk (fun h => ?_) (fun h => ?_)) <;> (try simp only [zs, ne_eq] at h) <;> (try simp (disch := omega) only [w64] at h) <;> (try exact zx)) | (with_reducible intro hz; (try exact absurd hz (Nat.succ_ne_zero _)))))
            · have hk : decide (e < d) = false := decide_eq_false hed
              (repeat' ((try (conv => whnf)); first | (with_reducible first | refine And.intro ?_ ?_ | refine WX.of ?_) | exact zc | ((with_reducible refine VC.mk ?_); exact zw) | with_reducible refine atL_0 hd ?_ | with_reducible refine atL_0 he ?_ | ((with_reducible refine splitT_of ?_ ?_); (focus (simp only [gt_iff_lt, hk, Bool.not_true, Bool.not_false, decide_true, decide_false]; done))) | ((with_reducible refine splitF_of ?_ ?_); (focus (simp only [gt_iff_lt, hk, Bool.not_true, Bool.not_false, decide_true, decide_false]; done))) | (with_reducible first | refine splitT ?_ | refine splitF ?_) | ((with_reducible refine splitM.mk (fun hsm => ?_) (fun hsm => ?_)) <;> (try exact zx)) | ((with_reducible refine splitB.mk (fun h => ?_) (fun h => ?_)) <;> (try simp only [zs, ne_eq] at h) <;> (try simp (disch := omega) only [w64] at h) <;> (try exact zx)) | (with_reducible intro hz; (try exact absurd hz (Nat.succ_ne_zero _)))))
              refine ⟨i + 1, by omega, ⟨by omega, hlt⟩, ?_⟩
              rw [hst, if_neg hed]
              (repeat' ((try (conv => whnf)); first | (with_reducible first | refine And.intro ?_ ?_ | refine WX.of ?_) | exact zc | ((with_reducible refine VC.mk ?_); exact zw) | (with_reducible first | refine splitT ?_ | refine splitF ?_) | ((with_reducible refine splitM.mk (fun hsm => ?_) (fun hsm => ?_)) <;> (try exact zx)) | ((with_reducible refine splitB.mk (fun h => ?_) (fun h => ?_)) <;> (try simp only [zs, ne_eq] at h) <;> (try simp (disch := omega) only [w64] at h) <;> (try exact zx)) | (with_reducible intro hz; (try exact absurd hz (Nat.succ_ne_zero _)))))
          · obtain rfl : i = M.length := by omega
            obtain ⟨e, he⟩ := get_some (l := dst M) (i := farU (dst M) M.length) (farU_lt (by omega) _ (by omega))
            have hbe := hdb e (List.mem_of_getElem? he)
            have hfl := farU_lt (D := dst M) (by omega) M.length (by omega)
            have hsp : stpB times M = decide (2 * e ≤ times * twc (dst M)) := by unfold stpB; rw [gi_e he]
            have htb := tim_b (t := twc (dst M)) ht (by omega)
            have hbd2 : ∀ (j : Nat) (a : Int), (seg (dst M) 0 M.length)[j]? = some a → -1000000000 ≤ a ∧ a ≤ 1000000000 := fun j a ha => by rw [hsd] at ha; have := hdb a (List.mem_of_getElem? ha); omega
            have hw1 : IntKind.i64.wrap (2 * e) = 2 * e := w64 (by omega)
            have hw2 : IntKind.i64.wrap (times * twc (dst M)) = times * twc (dst M) := w64 (by omega)
            by_cases hstop : 2 * e ≤ times * twc (dst M)
            · rw [lvo_brk (by rw [hsp]; exact decide_eq_true hstop)] at hl
              subst hl
              have hk : decide (2 * e ≤ times * twc (dst M)) = true := decide_eq_true hstop
              (repeat' ((try (conv => whnf)); first | (with_reducible first | refine And.intro ?_ ?_ | refine WX.of ?_) | exact zc | ((with_reducible refine VC.mk ?_); exact zw) | with_reducible refine atL_0 he ?_ | ((with_reducible refine VC.mk ?_); exact ⟨⟨by omega, hk3, by omega⟩, hbd2⟩) | ((with_reducible refine splitT_of ?_ ?_); (focus (simp only [hsd, hw1, hw2, hk, Bool.not_true, Bool.not_false, decide_true, decide_false]; done))) | ((with_reducible refine splitF_of ?_ ?_); (focus (simp only [hsd, hw1, hw2, hk, Bool.not_true, Bool.not_false, decide_true, decide_false]; done))) | (with_reducible first | refine splitT ?_ | refine splitF ?_) | ((with_reducible refine splitM.mk (fun hsm => ?_) (fun hsm => ?_)) <;> (try exact zx)) | ((with_reducible refine splitB.mk (fun h => ?_) (fun h => ?_)) <;> (try simp only [zs, ne_eq] at h) <;> (try simp (disch := omega) only [w64] at h) <;> (try exact zx)) | (with_reducible intro hz; (try exact absurd hz (Nat.succ_ne_zero _)))))
            · obtain ⟨k, rfl⟩ : ∃ j, k = j + 1 := ⟨k - 1, by omega⟩
              rw [lvo_go hgo (by rw [hsp]; exact decide_eq_false hstop)] at hl
              have hk : decide (2 * e ≤ times * twc (dst M)) = false := decide_eq_false hstop
              have hle2 : (M.eraseIdx (farU (dst M) M.length)).length = M.length - 1 := by rw [List.length_eraseIdx, if_pos (by omega)]
              have hw : IntKind.i64.wrap (((farU (dst M) M.length : Nat) : Int) + 1) = ((farU (dst M) M.length + 1 : Nat) : Int) := by rw [w64 (by omega)]; omega
              have hin : ((k, M.eraseIdx (farU (dst M) M.length)).2.length ≤ k ∧ k ≤ n) ∧ 1 ≤ (k, M.eraseIdx (farU (dst M) M.length)).2.length := ⟨⟨by dsimp only; rw [hle2]; omega, by omega⟩, by dsimp only; rw [hle2]; omega⟩
              (repeat' ((try (conv => whnf)); first | (with_reducible first | refine And.intro ?_ ?_ | refine WX.of ?_) | exact zc | ((with_reducible refine VC.mk ?_); exact zw) | with_reducible refine atL_0 he ?_ | ((with_reducible refine VC.mk ?_); exact ⟨⟨by omega, hk3, by omega⟩, hbd2⟩) | ((with_reducible refine splitT_of ?_ ?_); (focus (simp only [hsd, hw1, hw2, hk, Bool.not_true, Bool.not_false, decide_true, decide_false]; done))) | ((with_reducible refine splitF_of ?_ ?_); (focus (simp only [hsd, hw1, hw2, hk, Bool.not_true, Bool.not_false, decide_true, decide_false]; done))) | ((with_reducible refine VC.mk ?_); (show 0 + (0 + _) ≤ (seg [] 0 0 ++ seg M 0 _).length; rw [List.length_append, seg_len (l := M) (by omega)]; omega)) | (with_reducible first | refine splitT ?_ | refine splitF ?_) | ((with_reducible refine splitM.mk (fun hsm => ?_) (fun hsm => ?_)) <;> (try exact zx)) | ((with_reducible refine splitB.mk (fun h => ?_) (fun h => ?_)) <;> (try simp only [zs, ne_eq] at h) <;> (try simp (disch := omega) only [w64] at h) <;> (try exact zx)) | (with_reducible intro hz; (try exact absurd hz (Nat.succ_ne_zero _)))))
              all_goals
                rw [hw, Int.toNat_natCast] at *
                rw [Int.toNat_natCast] at *
                refine ⟨(k, M.eraseIdx (farU (dst M) M.length)), Nat.lt_succ_self k, ⟨hin, hl, fun a ha => hbM a (List.mem_of_mem_eraseIdx ha)⟩, ?_⟩
              · exfalso; omega
              · rw [hle2]
                (repeat' ((try (conv => whnf)); first | (with_reducible first | refine And.intro ?_ ?_ | refine WX.of ?_) | exact zc | ((with_reducible refine VC.mk ?_); exact zw) | (with_reducible first | refine splitT ?_ | refine splitF ?_) | ((with_reducible refine splitM.mk (fun hsm => ?_) (fun hsm => ?_)) <;> (try exact zx)) | ((with_reducible refine splitB.mk (fun h => ?_) (fun h => ?_)) <;> (try simp only [zs, ne_eq] at h) <;> (try simp (disch := omega) only [w64] at h) <;> (try exact zx)) | (with_reducible intro hz; (try exact absurd hz (Nat.succ_ne_zero _)))))
                exact VC.mk (er_a (M := M) (f := farU (dst M) M.length) (by assumption) (by omega))
              · rw [hle2]
                (repeat' ((try (conv => whnf)); first | (with_reducible first | refine And.intro ?_ ?_ | refine WX.of ?_) | exact zc | ((with_reducible refine VC.mk ?_); exact zw) | (with_reducible first | refine splitT ?_ | refine splitF ?_) | ((with_reducible refine splitM.mk (fun hsm => ?_) (fun hsm => ?_)) <;> (try exact zx)) | ((with_reducible refine splitB.mk (fun h => ?_) (fun h => ?_)) <;> (try simp only [zs, ne_eq] at h) <;> (try simp (disch := omega) only [w64] at h) <;> (try exact zx)) | (with_reducible intro hz; (try exact absurd hz (Nat.succ_ne_zero _)))))
                exact VC.mk (er_b (M := M) (f := farU (dst M) M.length) hz (by omega))
              · rw [hle2]
                (repeat' ((try (conv => whnf)); first | (with_reducible first | refine And.intro ?_ ?_ | refine WX.of ?_) | exact zc | ((with_reducible refine VC.mk ?_); exact zw) | (with_reducible first | refine splitT ?_ | refine splitF ?_) | ((with_reducible refine splitM.mk (fun hsm => ?_) (fun hsm => ?_)) <;> (try exact zx)) | ((with_reducible refine splitB.mk (fun h => ?_) (fun h => ?_)) <;> (try simp only [zs, ne_eq] at h) <;> (try simp (disch := omega) only [w64] at h) <;> (try exact zx)) | (with_reducible intro hz; (try exact absurd hz (Nat.succ_ne_zero _)))))
                exact VC.mk (er_c (M := M) (f := farU (dst M) M.length) (by omega))
      · have hkg : decide (IntKind.i64.wrap (IntKind.i64.wrap ((n : Int).tdiv 2) + 1) < (M.length : Int)) = false := by rw [hq]; exact decide_eq_false (by omega)
        rw [lvo_stop hgo] at hl
        subst hl
        (repeat' ((try (conv => whnf)); first | (with_reducible first | refine And.intro ?_ ?_ | refine WX.of ?_) | exact zc | ((with_reducible refine VC.mk ?_); exact zw) | ((with_reducible refine splitT_of ?_ ?_); (focus (simp only [hkg, Bool.not_true, Bool.not_false, decide_true, decide_false]; done))) | ((with_reducible refine splitF_of ?_ ?_); (focus (simp only [hkg, Bool.not_true, Bool.not_false, decide_true, decide_false]; done))) | (with_reducible first | refine splitT ?_ | refine splitF ?_) | ((with_reducible refine splitM.mk (fun hsm => ?_) (fun hsm => ?_)) <;> (try exact zx)) | ((with_reducible refine splitB.mk (fun h => ?_) (fun h => ?_)) <;> (try simp only [zs, ne_eq] at h) <;> (try simp (disch := omega) only [w64] at h) <;> (try exact zx)) | (with_reducible intro hz; (try exact absurd hz (Nat.succ_ne_zero _)))))
def s_lv0S : Spec := fun args S => match args, S with
  | [.sl 0 s n x, .int .i64 times], [.arr (.int .i64) l 1 wr] => ⟨(s + n ≤ l.length ∧ n ≤ 1048576) ∧ lvOk (seg l s n) times = false, .tup [.sl 1 0 0 0, .int .i64 2], [.arr (.int .i64) l 1 wr, .arr (.int .i64) [] 1 true]⟩
  | _, _ => noSpec
theorem ok_LeaveOutS0 : SpecOk Try.prog 16 s_lv0S := by
  intro args S h; unfold s_lv0S at h ⊢; (split at h <;> first | exact False.elim h | skip)
  dsimp only at h ⊢
  rename_i s n x times l wr
  obtain ⟨⟨h1, h2⟩, ho⟩ := h
  unfold lvOk at ho
  have hL := seg_len h1
  refine funW tabOk (E := [(20, s_l06List), (21, s_within)]) ⟨ok_l06List, ok_l00In, trivial⟩ [(15, [(3, 1)]), (16, [(3, 0), (8, 0), (8, 1)])] (k := 1) (fn := Try.f16) rfl rfl rfl rfl rfl rfl ?_
  cases hA : areB (seg l s n) with
  | false =>
    have hc : areCode (seg l s n) = 2 := by unfold areCode; rw [hA]; rfl
    have hn0 : ¬ (2 : Int) = 0 := by omega
    (repeat' ((try (conv => whnf)); first | (with_reducible first | refine And.intro ?_ ?_ | refine WX.of ?_) | exact zc | ((with_reducible refine VC.mk ?_); exact zw) | ((with_reducible refine splitT_of ?_ ?_); (focus (simp only [hc, hn0, ne_eq, not_false_eq_true, Bool.not_true, Bool.not_false, decide_true, decide_false]; done))) | ((with_reducible refine splitF_of ?_ ?_); (focus (simp only [hc, hn0, ne_eq, not_false_eq_true, Bool.not_true, Bool.not_false, decide_true, decide_false]; done))) | (with_reducible first | refine splitT ?_ | refine splitF ?_) | ((with_reducible refine splitM.mk (fun hsm => ?_) (fun hsm => ?_)) <;> (try exact zx)) | ((with_reducible refine splitB.mk (fun h => ?_) (fun h => ?_)) <;> (try simp only [zs, ne_eq] at h) <;> (try simp (disch := omega) only [w64] at h) <;> (try exact zx)) | (with_reducible intro hz; (try exact absurd hz (Nat.succ_ne_zero _)))))
    all_goals (first | exact ⟨by rw [hc]⟩ | trace_state)
  | true =>
    rw [hA, Bool.true_and] at ho
    have hc : areCode (seg l s n) = 0 := code_0.2 hA
    have hn0 : ¬ (2 : Int) = 0 := by omega
    (repeat' ((try (conv => whnf)); first | (with_reducible first | refine And.intro ?_ ?_ | refine WX.of ?_) | exact zc | ((with_reducible refine VC.mk ?_); exact zw) | ((with_reducible refine splitT_of ?_ ?_); (focus (simp only [hc, ho, hn0, ne_eq, not_false_eq_true, not_true_eq_false, Bool.not_true, Bool.not_false, decide_true, decide_false]; done))) | ((with_reducible refine splitF_of ?_ ?_); (focus (simp only [hc, ho, hn0, ne_eq, not_false_eq_true, not_true_eq_false, Bool.not_true, Bool.not_false, decide_true, decide_false]; done))) | (with_reducible first | refine splitT ?_ | refine splitF ?_) | ((with_reducible refine splitM.mk (fun hsm => ?_) (fun hsm => ?_)) <;> (try exact zx)) | ((with_reducible refine splitB.mk (fun h => ?_) (fun h => ?_)) <;> (try simp only [zs, ne_eq] at h) <;> (try simp (disch := omega) only [w64] at h) <;> (try exact zx)) | (with_reducible intro hz; (try exact absurd hz (Nat.succ_ne_zero _)))))
end Go.Proofs.Ytiojoddcckhjdaa.Eng
set_option linter.unusedVariables false
set_option linter.unusedSimpArgs false
namespace Go.Proofs.Ytiojoddcckhjdaa.Eng
open Go Go.RowKit
set_option maxRecDepth 100000
/-- Marks in a row that goes on. -/
def s_mkT : Spec := fun args S => match args, S with
  | [.sl 0 0 n x, .int .i64 k], [.arr (.int .i64) l 1 true] => ⟨n ≤ l.length ∧ n ≤ 1048576 ∧ 0 ≤ k ∧ k ≤ 1099511627776, .int .i64 (k + 1 * n), [.arr (.int .i64) (marks (fun k => k) 1 k n ++ l.drop n) 1 true]⟩
  | _, _ => noSpec
theorem ok_mkT : SpecOk Try.prog 18 s_mkT := by
  intro args S h; unfold s_mkT at h ⊢; (split at h <;> first | exact False.elim h | skip)
  dsimp only at h ⊢
  rename_i n x k l
  obtain ⟨hn, h1, h2, h3⟩ := h
  have hml : (marks (α := Int) (fun k => k) 1 k n).length = n := marks_len
  have hm : (marks (α := Int) (fun k => k) 1 k n ++ l.drop n).length = l.length := by rw [List.length_append, hml, List.length_drop]; omega
  refine funW tabOk (E := []) trivial [] (k := 1) (fn := Try.f18) rfl rfl rfl rfl rfl rfl ?_
  (repeat' ((try (conv => whnf)); first | (with_reducible first | refine And.intro ?_ ?_ | refine WX.of ?_) | exact zc | ((with_reducible refine VC.mk ?_); exact zw) | (with_reducible first | refine splitT ?_ | refine splitF ?_) | ((with_reducible refine splitM.mk (fun hsm => ?_) (fun hsm => ?_)) <;> (try exact zx)) | ((with_reducible refine splitB.mk (fun h => ?_) (fun h => ?_)) <;> (try simp only [zs, ne_eq] at h) <;> (try simp (disch := omega) only [w64] at h) <;> (try exact zx)) | (with_reducible intro hz; (try exact absurd hz (Nat.succ_ne_zero _)))))
  refine loopW tabOk (E := []) trivial [] (σ := Nat) (fun i => [(0, .sl 0 0 n x), (1, .int .i64 (k + 1 * i)), (5, .int .i64 i)]) (fun i => [.arr (.int .i64) ((marks (fun k => k) 1 k n ++ l.drop n).take i ++ l.drop i) 1 true]) (fun i => n - i) (fun i => i ≤ n) 0 (Nat.zero_le _) ?_ ?_
  · (repeat' ((try (conv => whnf)); first | (with_reducible first | refine And.intro ?_ ?_ | refine WX.of ?_) | exact zc | ((with_reducible refine VC.mk ?_); exact zw) | (with_reducible first | refine splitT ?_ | refine splitF ?_) | ((with_reducible refine splitM.mk (fun hsm => ?_) (fun hsm => ?_)) <;> (try exact zx)) | ((with_reducible refine splitB.mk (fun h => ?_) (fun h => ?_)) <;> (try simp only [zs, ne_eq] at h) <;> (try simp (disch := omega) only [w64] at h) <;> (try exact zx)) | (with_reducible intro hz; (try exact absurd hz (Nat.succ_ne_zero _)))))
  · intro i hi
    by_cases hlt : i < n
    · obtain ⟨a, ha⟩ := get_some (l := l) (i := i) (by omega)
      have hb0 := marks_get (α := Int) (f := (fun k => k)) (c := 1) (k := k) hlt
      have hb : (marks (α := Int) (fun k => k) 1 k n ++ l.drop n)[i]? = some (k + 1 * i) := by rw [List.getElem?_append_left (by omega)]; exact hb0
      (repeat' ((try (conv => whnf)); first | (with_reducible first | refine And.intro ?_ ?_ | refine WX.of ?_) | exact zc | ((with_reducible refine VC.mk ?_); exact zw) | with_reducible refine atL_0 (mark_at hm ha) ?_ | (with_reducible first | refine splitT ?_ | refine splitF ?_) | ((with_reducible refine splitM.mk (fun hsm => ?_) (fun hsm => ?_)) <;> (try exact zx)) | ((with_reducible refine splitB.mk (fun h => ?_) (fun h => ?_)) <;> (try simp only [zs, ne_eq] at h) <;> (try simp (disch := omega) only [w64] at h) <;> (try exact zx)) | (with_reducible intro hz; (try exact absurd hz (Nat.succ_ne_zero _)))))
      refine ⟨i + 1, by omega, hlt, ?_⟩
      (repeat' ((try (conv => whnf)); first | (with_reducible first | refine And.intro ?_ ?_ | refine WX.of ?_) | exact zc | ((with_reducible refine VC.mk ?_); exact zw) | (with_reducible first | refine splitT ?_ | refine splitF ?_) | ((with_reducible refine splitM.mk (fun hsm => ?_) (fun hsm => ?_)) <;> (try exact zx)) | ((with_reducible refine splitB.mk (fun h => ?_) (fun h => ?_)) <;> (try simp only [zs, ne_eq] at h) <;> (try simp (disch := omega) only [w64] at h) <;> (try exact zx)) | (with_reducible intro hz; (try exact absurd hz (Nat.succ_ne_zero _)))))
      refine ⟨?_⟩
      (try simp (disch := omega) only [w64])
      simp only [List.set_set, Nat.zero_add, Int.toNat_natCast]
      exact mark_step hm hb
    · (repeat' ((try (conv => whnf)); first | (with_reducible first | refine And.intro ?_ ?_ | refine WX.of ?_) | exact zc | ((with_reducible refine VC.mk ?_); exact zw) | (with_reducible first | refine splitT ?_ | refine splitF ?_) | ((with_reducible refine splitM.mk (fun hsm => ?_) (fun hsm => ?_)) <;> (try exact zx)) | ((with_reducible refine splitB.mk (fun h => ?_) (fun h => ?_)) <;> (try simp only [zs, ne_eq] at h) <;> (try simp (disch := omega) only [w64] at h) <;> (try exact zx)) | (with_reducible intro hz; (try exact absurd hz (Nat.succ_ne_zero _)))))
      obtain rfl : i = n := by omega
      refine ⟨?_⟩
      conv => lhs; rw [List.take_append_of_le_length (by omega), List.take_of_length_le (by omega)]
def s_hdT : Spec := fun args S => match args, S with
  | [.sl 0 0 n x, .int .i64 k], [.arr (.int .i64) l 1 wr] => ⟨l.take n = marks (fun k => k) 1 k n ∧ n ≤ 1048576 ∧ 0 ≤ k ∧ k ≤ 1099511627776, .int .i64 (k + 1 * n), [.arr (.int .i64) l 1 wr]⟩
  | _, _ => noSpec
theorem ok_hdT : SpecOk Try.prog 19 s_hdT := by
  intro args S h; unfold s_hdT at h ⊢; (split at h <;> first | exact False.elim h | skip)
  dsimp only at h ⊢
  rename_i n x k l wr
  obtain ⟨hl, h1, h2, h3⟩ := h
  refine funW tabOk (E := []) trivial [] (k := 1) (fn := Try.f19) rfl rfl rfl rfl rfl rfl ?_
  (repeat' ((try (conv => whnf)); first | (with_reducible first | refine And.intro ?_ ?_ | refine WX.of ?_) | exact zc | ((with_reducible refine VC.mk ?_); exact zw) | (with_reducible first | refine splitT ?_ | refine splitF ?_) | ((with_reducible refine splitM.mk (fun hsm => ?_) (fun hsm => ?_)) <;> (try exact zx)) | ((with_reducible refine splitB.mk (fun h => ?_) (fun h => ?_)) <;> (try simp only [zs, ne_eq] at h) <;> (try simp (disch := omega) only [w64] at h) <;> (try exact zx)) | (with_reducible intro hz; (try exact absurd hz (Nat.succ_ne_zero _)))))
  refine loopW tabOk (E := []) trivial [] (σ := Nat) (fun i => [(0, .sl 0 0 n x), (1, .int .i64 (k + 1 * i)), (5, .int .i64 i)]) (fun i => [.arr (.int .i64) l 1 wr]) (fun i => n - i) (fun i => i ≤ n) 0 (Nat.zero_le _) ?_ ?_
  · (repeat' ((try (conv => whnf)); first | (with_reducible first | refine And.intro ?_ ?_ | refine WX.of ?_) | exact zc | ((with_reducible refine VC.mk ?_); exact zw) | (with_reducible first | refine splitT ?_ | refine splitF ?_) | ((with_reducible refine splitM.mk (fun hsm => ?_) (fun hsm => ?_)) <;> (try exact zx)) | ((with_reducible refine splitB.mk (fun h => ?_) (fun h => ?_)) <;> (try simp only [zs, ne_eq] at h) <;> (try simp (disch := omega) only [w64] at h) <;> (try exact zx)) | (with_reducible intro hz; (try exact absurd hz (Nat.succ_ne_zero _)))))
  · intro i hi
    by_cases hlt : i < n
    · have hb0 := marks_get (α := Int) (f := (fun k => k)) (c := 1) (k := k) hlt
      have hb : l[i]? = some (k + 1 * i) := by
        have : (l.take n)[i]? = some (k + 1 * i) := by rw [hl]; exact hb0
        rw [List.getElem?_take, if_pos hlt] at this
        exact this
      (repeat' ((try (conv => whnf)); first | (with_reducible first | refine And.intro ?_ ?_ | refine WX.of ?_) | exact zc | ((with_reducible refine VC.mk ?_); exact zw) | with_reducible refine atL_0 hb ?_ | (with_reducible first | refine splitT ?_ | refine splitF ?_) | ((with_reducible refine splitM.mk (fun hsm => ?_) (fun hsm => ?_)) <;> (try exact zx)) | ((with_reducible refine splitB.mk (fun h => ?_) (fun h => ?_)) <;> (try simp only [zs, ne_eq] at h) <;> (try simp (disch := omega) only [w64] at h) <;> (try exact zx)) | (with_reducible intro hz; (try exact absurd hz (Nat.succ_ne_zero _)))))
      refine ⟨i + 1, by omega, hlt, ?_⟩
      (repeat' ((try (conv => whnf)); first | (with_reducible first | refine And.intro ?_ ?_ | refine WX.of ?_) | exact zc | ((with_reducible refine VC.mk ?_); exact zw) | (with_reducible first | refine splitT ?_ | refine splitF ?_) | ((with_reducible refine splitM.mk (fun hsm => ?_) (fun hsm => ?_)) <;> (try exact zx)) | ((with_reducible refine splitB.mk (fun h => ?_) (fun h => ?_)) <;> (try simp only [zs, ne_eq] at h) <;> (try simp (disch := omega) only [w64] at h) <;> (try exact zx)) | (with_reducible intro hz; (try exact absurd hz (Nat.succ_ne_zero _)))))
    · obtain rfl : i = n := by omega
      (repeat' ((try (conv => whnf)); first | (with_reducible first | refine And.intro ?_ ?_ | refine WX.of ?_) | exact zc | ((with_reducible refine VC.mk ?_); exact zw) | (with_reducible first | refine splitT ?_ | refine splitF ?_) | ((with_reducible refine splitM.mk (fun hsm => ?_) (fun hsm => ?_)) <;> (try exact zx)) | ((with_reducible refine splitB.mk (fun h => ?_) (fun h => ?_)) <;> (try simp only [zs, ne_eq] at h) <;> (try simp (disch := omega) only [w64] at h) <;> (try exact zx)) | (with_reducible intro hz; (try exact absurd hz (Nat.succ_ne_zero _)))))
theorem seg_app {A B : List Int} : seg (A ++ B) 0 A.length = A := by unfold seg; rw [List.drop_zero, List.take_left]
theorem lvF_b {L : List Int} {times : Int} : (lvF L times).length ≤ L.length := lvo_len _ _
theorem law_leaveOut {c : Bool} {n : Nat} {l : List Int} (hn : n ≤ l.length) (hc : c = true → l = []) (ho : ∀ y ∈ l, ET.Ok (.int .i64) y) {y2 : Int} (ho2 : -9223372036854775808 ≤ y2 ∧ y2 ≤ 9223372036854775807) : RunsS Try.prog 6 [.opt c 0 n 0, .int .i64 y2] [.arrO (.int .i64) l 1] (.bool true) [.arrO (.int .i64) l 1] := by
  have hL : (seg l 0 n).length = n := seg_len (by omega)
  have hS : seg (seg l 0 n) 0 n = seg l 0 n := seg_full hL
  cases hk : lvOk (seg l 0 n) y2 with
  | true =>
    have hF := lvF_b (L := seg l 0 n) (times := y2)
    rw [hL] at hF
    have hap : seg (lvF (seg l 0 n) y2 ++ List.replicate (n - (lvF (seg l 0 n) y2).length) 0) 0 (lvF (seg l 0 n) y2).length = lvF (seg l 0 n) y2 := seg_app
    have hff : seg (lvF (seg l 0 n) y2) 0 (lvF (seg l 0 n) y2).length = lvF (seg l 0 n) y2 := seg_all _
    have hlz : (lvF (seg l 0 n) y2 ++ List.replicate (n - (lvF (seg l 0 n) y2).length) 0).length = n := by rw [List.length_append, List.length_replicate]; omega
    have hmt : (marks (α := Int) (fun k => k) 1 1 (lvF (seg l 0 n) y2).length ++ List.drop (lvF (seg l 0 n) y2).length (lvF (seg l 0 n) y2 ++ List.replicate (n - (lvF (seg l 0 n) y2).length) 0)).take (lvF (seg l 0 n) y2).length = marks (fun k => k) 1 1 (lvF (seg l 0 n) y2).length := by
      have hml : (marks (α := Int) (fun k => k) 1 1 (lvF (seg l 0 n) y2).length).length = (lvF (seg l 0 n) y2).length := marks_len
      rw [List.take_append_of_le_length (by omega), List.take_of_length_le (by omega)]
    refine funW tabOk (E := [(8, s_toInt64S), (16, s_lvS1), (17, s_lvI1), (11, s_eqInt64S), (18, s_mkT), (19, s_hdT)]) ⟨ok_toInt64S, ok_LeaveOutS1, ok_LeaveOutI1, ok_eqInt64S, ok_mkT, ok_hdT, trivial⟩ [] (k := 1) (fn := Try.f6) rfl rfl rfl rfl rfl rfl ?_
    (repeat' ((try (conv => whnf)); first | (with_reducible first | refine And.intro ?_ ?_ | refine WX.of ?_) | exact zc | ((with_reducible refine VC.mk ?_); exact zw) | exact ⟨⟨hn, hc, by omega⟩⟩ | ((with_reducible refine VC.mk ?_); (try dsimp only); (simp only [hS, hk, hL, hap, hlz, hmt, Nat.zero_add, and_true, true_and, and_self, ne_eq, not_false_eq_true, not_true_eq_false]); done) | ((with_reducible refine VC.mk ?_); (try dsimp only); (try simp only [hS, hk, hL, hap, hlz, hmt, Nat.zero_add, and_true, true_and, and_self, ne_eq, not_false_eq_true, not_true_eq_false]); omega) | ((with_reducible refine splitT_of ?_ ?_); (focus (simp only [hS, hap, hff, eq_self, decide_true, Bool.not_true, Bool.not_false, decide_true, decide_false]; done))) | ((with_reducible refine splitF_of ?_ ?_); (focus (simp only [hS, hap, hff, eq_self, decide_true, Bool.not_true, Bool.not_false, decide_true, decide_false]; done))) | (with_reducible first | refine splitT ?_ | refine splitF ?_) | ((with_reducible refine splitM.mk (fun hsm => ?_) (fun hsm => ?_)) <;> (try exact zx)) | ((with_reducible refine splitB.mk (fun h => ?_) (fun h => ?_)) <;> (try simp only [zs, ne_eq] at h) <;> (try simp (disch := omega) only [w64] at h) <;> (try exact zx)) | (with_reducible intro hz; (try exact absurd hz (Nat.succ_ne_zero _)))))
  | false =>
    refine funW tabOk (E := [(8, s_toInt64S), (16, s_lv0S), (17, s_lv0), (11, s_eqInt64S), (18, s_markInt64S), (19, s_heldInt64S)]) ⟨ok_toInt64S, ok_LeaveOutS0, ok_LeaveOutI0, ok_eqInt64S, ok_markInt64S, ok_heldInt64S, trivial⟩ [] (k := 1) (fn := Try.f6) rfl rfl rfl rfl rfl rfl ?_
    (repeat' ((try (conv => whnf)); first | (with_reducible first | refine And.intro ?_ ?_ | refine WX.of ?_) | exact zc | ((with_reducible refine VC.mk ?_); exact zw) | exact ⟨⟨hn, hc, by omega⟩⟩ | ((with_reducible refine VC.mk ?_); (try dsimp only); (simp only [hS, hk, hL, and_true, true_and, and_self, ne_eq, not_false_eq_true, not_true_eq_false]); done) | ((with_reducible refine VC.mk ?_); (try dsimp only); (try simp only [hS, hk, hL, and_true, true_and, and_self, ne_eq, not_false_eq_true, not_true_eq_false]); omega) | (with_reducible first | refine splitT ?_ | refine splitF ?_) | ((with_reducible refine splitM.mk (fun hsm => ?_) (fun hsm => ?_)) <;> (try exact zx)) | ((with_reducible refine splitB.mk (fun h => ?_) (fun h => ?_)) <;> (try simp only [zs, ne_eq] at h) <;> (try simp (disch := omega) only [w64] at h) <;> (try exact zx)) | (with_reducible intro hz; (try exact absurd hz (Nat.succ_ne_zero _)))))
end Go.Proofs.Ytiojoddcckhjdaa.Eng
