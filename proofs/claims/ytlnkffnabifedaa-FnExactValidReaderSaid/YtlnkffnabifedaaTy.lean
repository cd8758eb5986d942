/- A text of this claim: Ty. -/
import Derived.Test.YtlnkffnabifedaaE24
import Derived.Test.YtlnkffnabifedaaProg
set_option linter.unusedVariables false
namespace Go.Proofs.Ytlnkffnabifedaa.Eng
open Go Go.RowKit
instance I_1 : TyIs Try.prog 1 { und := TypeDesc.func #[] #[] false, size := 1, bytes := 8, zero := [Value.nilFunc], fl := false } := ⟨rfl⟩
instance I_2 : TyIs Try.prog 2 { und := TypeDesc.int IntKind.i64, size := 1, bytes := 8, zero := [Value.int IntKind.i64 0], fl := true } := ⟨rfl⟩
instance I_3 : TyIs Try.prog 3 { und := TypeDesc.int IntKind.i64, size := 1, bytes := 8, zero := [Value.int IntKind.i64 0], fl := true } := ⟨rfl⟩
instance I_4 : TyIs Try.prog 4 { und := TypeDesc.bool, size := 1, bytes := 1, zero := [Value.bool false], fl := true } := ⟨rfl⟩
instance I_5 : TyIs Try.prog 5 { und := TypeDesc.int IntKind.u8, size := 1, bytes := 1, zero := [Value.int IntKind.u8 0], fl := true } := ⟨rfl⟩
instance I_6 : TyIs Try.prog 6 { und := TypeDesc.int IntKind.u8, size := 1, bytes := 1, zero := [Value.int IntKind.u8 0], fl := true } := ⟨rfl⟩
instance I_7 : TyIs Try.prog 7 { und := TypeDesc.struct #[{ name := "x", type := 2, offset := 0, embedded := false, tag := "", pkgPath := "runtime", byteOffset := 0 }, { name := "y", type := 3, offset := 1, embedded := false, tag := "", pkgPath := "runtime", byteOffset := 8 }, { name := "signed", type := 4, offset := 2, embedded := false, tag := "", pkgPath := "runtime", byteOffset := 16 }, { name := "code", type := 6, offset := 3, embedded := false, tag := "", pkgPath := "runtime", byteOffset := 17 }], size := 4, bytes := 24, zero := [Value.int IntKind.i64 0, Value.int IntKind.i64 0, Value.bool false, Value.int IntKind.u8 0], fl := true } := ⟨rfl⟩
theorem Q_7 : eqOf Try.prog 7 = true := by decide +kernel
instance I_8 : TyIs Try.prog 8 { und := TypeDesc.struct #[{ name := "x", type := 2, offset := 0, embedded := false, tag := "", pkgPath := "runtime", byteOffset := 0 }, { name := "y", type := 3, offset := 1, embedded := false, tag := "", pkgPath := "runtime", byteOffset := 8 }, { name := "signed", type := 4, offset := 2, embedded := false, tag := "", pkgPath := "runtime", byteOffset := 16 }, { name := "code", type := 6, offset := 3, embedded := false, tag := "", pkgPath := "runtime", byteOffset := 17 }], size := 4, bytes := 24, zero := [Value.int IntKind.i64 0, Value.int IntKind.i64 0, Value.bool false, Value.int IntKind.u8 0], fl := true } := ⟨rfl⟩
theorem Q_8 : eqOf Try.prog 8 = true := by decide +kernel
instance I_9 : TyIs Try.prog 9 { und := TypeDesc.string, size := 1, bytes := 16, zero := [Value.string ⟨#[]⟩], fl := true } := ⟨rfl⟩
instance I_10 : TyIs Try.prog 10 { und := TypeDesc.string, size := 1, bytes := 16, zero := [Value.string ⟨#[]⟩], fl := true } := ⟨rfl⟩
instance I_11 : TyIs Try.prog 11 { und := TypeDesc.string, size := 1, bytes := 16, zero := [Value.string ⟨#[]⟩], fl := true } := ⟨rfl⟩
instance I_12 : TyIs Try.prog 12 { und := TypeDesc.int IntKind.u64, size := 1, bytes := 8, zero := [Value.int IntKind.u64 0], fl := true } := ⟨rfl⟩
instance I_13 : TyIs Try.prog 13 { und := TypeDesc.struct #[{ name := "msg", type := 9, offset := 0, embedded := false, tag := "", pkgPath := "runtime", byteOffset := 0 }, { name := "addr", type := 12, offset := 1, embedded := false, tag := "", pkgPath := "runtime", byteOffset := 16 }], size := 2, bytes := 24, zero := [Value.string ⟨#[]⟩, Value.int IntKind.u64 0], fl := true } := ⟨rfl⟩
theorem Q_13 : eqOf Try.prog 13 = false := by decide +kernel
instance I_14 : TyIs Try.prog 14 { und := TypeDesc.struct #[{ name := "msg", type := 9, offset := 0, embedded := false, tag := "", pkgPath := "runtime", byteOffset := 0 }, { name := "addr", type := 12, offset := 1, embedded := false, tag := "", pkgPath := "runtime", byteOffset := 16 }], size := 2, bytes := 24, zero := [Value.string ⟨#[]⟩, Value.int IntKind.u64 0], fl := true } := ⟨rfl⟩
theorem Q_14 : eqOf Try.prog 14 = false := by decide +kernel
instance I_15 : TyIs Try.prog 15 { und := TypeDesc.pointer 93, size := 1, bytes := 8, zero := [Value.pointer none], fl := false } := ⟨rfl⟩
instance I_16 : TyIs Try.prog 16 { und := TypeDesc.pointer 96, size := 1, bytes := 8, zero := [Value.pointer none], fl := false } := ⟨rfl⟩
instance I_17 : TyIs Try.prog 17 { und := TypeDesc.pointer 106, size := 1, bytes := 8, zero := [Value.pointer none], fl := false } := ⟨rfl⟩
instance I_18 : TyIs Try.prog 18 { und := TypeDesc.struct #[{ name := "typ", type := 17, offset := 0, embedded := false, tag := "", pkgPath := "internal/runtime/maps", byteOffset := 0 }], size := 1, bytes := 8, zero := [Value.pointer none], fl := false } := ⟨rfl⟩
theorem Q_18 : eqOf Try.prog 18 = false := by decide +kernel
instance I_19 : TyIs Try.prog 19 { und := TypeDesc.struct #[{ name := "typ", type := 17, offset := 0, embedded := false, tag := "", pkgPath := "internal/runtime/maps", byteOffset := 0 }], size := 1, bytes := 8, zero := [Value.pointer none], fl := false } := ⟨rfl⟩
theorem Q_19 : eqOf Try.prog 19 = false := by decide +kernel
instance I_20 : TyIs Try.prog 20 { und := TypeDesc.interface #[], size := 1, bytes := 16, zero := [Value.nilIface], fl := false } := ⟨rfl⟩
instance I_21 : TyIs Try.prog 21 { und := TypeDesc.int IntKind.i32, size := 1, bytes := 4, zero := [Value.int IntKind.i32 0], fl := true } := ⟨rfl⟩
instance I_22 : TyIs Try.prog 22 { und := TypeDesc.int IntKind.i16, size := 1, bytes := 2, zero := [Value.int IntKind.i16 0], fl := true } := ⟨rfl⟩
instance I_23 : TyIs Try.prog 23 { und := TypeDesc.struct #[{ name := "Name", type := 9, offset := 0, embedded := false, tag := "", pkgPath := "", byteOffset := 0 }, { name := "Bias", type := 22, offset := 1, embedded := false, tag := "", pkgPath := "", byteOffset := 16 }, { name := "Unit", type := 22, offset := 2, embedded := false, tag := "", pkgPath := "", byteOffset := 18 }, { name := "Up", type := 4, offset := 3, embedded := false, tag := "", pkgPath := "", byteOffset := 20 }], size := 4, bytes := 24, zero := [Value.string ⟨#[]⟩, Value.int IntKind.i16 0, Value.int IntKind.i16 0, Value.bool false], fl := true } := ⟨rfl⟩
theorem Q_23 : eqOf Try.prog 23 = true := by decide +kernel
instance I_24 : TyIs Try.prog 24 { und := TypeDesc.struct #[{ name := "Name", type := 9, offset := 0, embedded := false, tag := "", pkgPath := "", byteOffset := 0 }, { name := "Bias", type := 22, offset := 1, embedded := false, tag := "", pkgPath := "", byteOffset := 16 }, { name := "Unit", type := 22, offset := 2, embedded := false, tag := "", pkgPath := "", byteOffset := 18 }, { name := "Up", type := 4, offset := 3, embedded := false, tag := "", pkgPath := "", byteOffset := 20 }], size := 4, bytes := 24, zero := [Value.string ⟨#[]⟩, Value.int IntKind.i16 0, Value.int IntKind.i16 0, Value.bool false], fl := true } := ⟨rfl⟩
theorem Q_24 : eqOf Try.prog 24 = true := by decide +kernel
instance I_25 : TyIs Try.prog 25 { und := TypeDesc.func #[24, 3] #[3] false, size := 1, bytes := 8, zero := [Value.nilFunc], fl := false } := ⟨rfl⟩
instance I_26 : TyIs Try.prog 26 { und := TypeDesc.func #[27] #[4] false, size := 1, bytes := 8, zero := [Value.nilFunc], fl := false } := ⟨rfl⟩
instance I_27 : TyIs Try.prog 27 { und := TypeDesc.struct #[{ name := "Name", type := 9, offset := 0, embedded := false, tag := "", pkgPath := "", byteOffset := 0 }, { name := "Bias", type := 22, offset := 1, embedded := false, tag := "", pkgPath := "", byteOffset := 16 }, { name := "Unit", type := 22, offset := 2, embedded := false, tag := "", pkgPath := "", byteOffset := 18 }, { name := "Up", type := 4, offset := 3, embedded := false, tag := "", pkgPath := "", byteOffset := 20 }], size := 4, bytes := 24, zero := [Value.string ⟨#[]⟩, Value.int IntKind.i16 0, Value.int IntKind.i16 0, Value.bool false], fl := true } := ⟨rfl⟩
theorem Q_27 : eqOf Try.prog 27 = true := by decide +kernel
instance I_28 : TyIs Try.prog 28 { und := TypeDesc.func #[24] #[27] false, size := 1, bytes := 8, zero := [Value.nilFunc], fl := false } := ⟨rfl⟩
instance I_29 : TyIs Try.prog 29 { und := TypeDesc.func #[24] #[4] false, size := 1, bytes := 8, zero := [Value.nilFunc], fl := false } := ⟨rfl⟩
instance I_30 : TyIs Try.prog 30 { und := TypeDesc.slice 2, size := 1, bytes := 24, zero := [Value.slice none 0 0], fl := false } := ⟨rfl⟩
instance I_31 : TyIs Try.prog 31 { und := TypeDesc.array 10 2, size := 10, bytes := 80, zero := [Value.int IntKind.i64 0, Value.int IntKind.i64 0, Value.int IntKind.i64 0, Value.int IntKind.i64 0, Value.int IntKind.i64 0, Value.int IntKind.i64 0, Value.int IntKind.i64 0, Value.int IntKind.i64 0, Value.int IntKind.i64 0, Value.int IntKind.i64 0], fl := true } := ⟨rfl⟩
instance I_33 : TyIs Try.prog 33 { und := TypeDesc.func #[30] #[31, 2] false, size := 1, bytes := 8, zero := [Value.nilFunc], fl := false } := ⟨rfl⟩
instance I_34 : TyIs Try.prog 34 { und := TypeDesc.func #[30] #[30] false, size := 1, bytes := 8, zero := [Value.nilFunc], fl := false } := ⟨rfl⟩
instance I_35 : TyIs Try.prog 35 { und := TypeDesc.func #[31, 31] #[4] false, size := 1, bytes := 8, zero := [Value.nilFunc], fl := false } := ⟨rfl⟩
instance I_36 : TyIs Try.prog 36 { und := TypeDesc.func #[30, 30] #[4] false, size := 1, bytes := 8, zero := [Value.nilFunc], fl := false } := ⟨rfl⟩
instance I_37 : TyIs Try.prog 37 { und := TypeDesc.func #[30] #[4] false, size := 1, bytes := 8, zero := [Value.nilFunc], fl := false } := ⟨rfl⟩
instance I_39 : TyIs Try.prog 39 { und := TypeDesc.func #[30] #[2, 2] false, size := 1, bytes := 8, zero := [Value.nilFunc], fl := false } := ⟨rfl⟩
instance I_41 : TyIs Try.prog 41 { und := TypeDesc.func #[30] #[2, 2, 2] false, size := 1, bytes := 8, zero := [Value.nilFunc], fl := false } := ⟨rfl⟩
instance I_42 : TyIs Try.prog 42 { und := TypeDesc.struct #[{ name := "P", type := 2, offset := 0, embedded := false, tag := "", pkgPath := "", byteOffset := 0 }, { name := "Q", type := 2, offset := 1, embedded := false, tag := "", pkgPath := "", byteOffset := 8 }], size := 2, bytes := 16, zero := [Value.int IntKind.i64 0, Value.int IntKind.i64 0], fl := true } := ⟨rfl⟩
theorem Q_42 : eqOf Try.prog 42 = true := by decide +kernel
instance I_43 : TyIs Try.prog 43 { und := TypeDesc.struct #[{ name := "P", type := 2, offset := 0, embedded := false, tag := "", pkgPath := "", byteOffset := 0 }, { name := "Q", type := 2, offset := 1, embedded := false, tag := "", pkgPath := "", byteOffset := 8 }], size := 2, bytes := 16, zero := [Value.int IntKind.i64 0, Value.int IntKind.i64 0], fl := true } := ⟨rfl⟩
theorem Q_43 : eqOf Try.prog 43 = true := by decide +kernel
instance I_44 : TyIs Try.prog 44 { und := TypeDesc.struct #[{ name := "P", type := 2, offset := 0, embedded := false, tag := "", pkgPath := "", byteOffset := 0 }, { name := "Q", type := 2, offset := 1, embedded := false, tag := "", pkgPath := "", byteOffset := 8 }], size := 2, bytes := 16, zero := [Value.int IntKind.i64 0, Value.int IntKind.i64 0], fl := true } := ⟨rfl⟩
theorem Q_44 : eqOf Try.prog 44 = true := by decide +kernel
instance I_46 : TyIs Try.prog 46 { und := TypeDesc.func #[44, 44] #[44, 2] false, size := 1, bytes := 8, zero := [Value.nilFunc], fl := false } := ⟨rfl⟩
instance I_47 : TyIs Try.prog 47 { und := TypeDesc.func #[43] #[44] false, size := 1, bytes := 8, zero := [Value.nilFunc], fl := false } := ⟨rfl⟩
instance I_48 : TyIs Try.prog 48 { und := TypeDesc.func #[44, 44] #[4] false, size := 1, bytes := 8, zero := [Value.nilFunc], fl := false } := ⟨rfl⟩
instance I_49 : TyIs Try.prog 49 { und := TypeDesc.func #[43, 43] #[4] false, size := 1, bytes := 8, zero := [Value.nilFunc], fl := false } := ⟨rfl⟩
instance I_50 : TyIs Try.prog 50 { und := TypeDesc.func #[27, 44] #[2, 2] false, size := 1, bytes := 8, zero := [Value.nilFunc], fl := false } := ⟨rfl⟩
instance I_51 : TyIs Try.prog 51 { und := TypeDesc.func #[24, 43] #[4] false, size := 1, bytes := 8, zero := [Value.nilFunc], fl := false } := ⟨rfl⟩
instance I_52 : TyIs Try.prog 52 { und := TypeDesc.func #[30, 30] #[44, 2] false, size := 1, bytes := 8, zero := [Value.nilFunc], fl := false } := ⟨rfl⟩
instance I_53 : TyIs Try.prog 53 { und := TypeDesc.func #[54] #[4] false, size := 1, bytes := 8, zero := [Value.nilFunc], fl := false } := ⟨rfl⟩
instance I_54 : TyIs Try.prog 54 { und := TypeDesc.pointer 27, size := 1, bytes := 8, zero := [Value.pointer none], fl := false } := ⟨rfl⟩
instance I_55 : TyIs Try.prog 55 { und := TypeDesc.func #[9] #[4] false, size := 1, bytes := 8, zero := [Value.nilFunc], fl := false } := ⟨rfl⟩
instance I_56 : TyIs Try.prog 56 { und := TypeDesc.func #[58] #[4] false, size := 1, bytes := 8, zero := [Value.nilFunc], fl := false } := ⟨rfl⟩
instance I_57 : TyIs Try.prog 57 { und := TypeDesc.struct #[{ name := "Bias", type := 22, offset := 0, embedded := false, tag := "", pkgPath := "", byteOffset := 0 }, { name := "Unit", type := 22, offset := 1, embedded := false, tag := "", pkgPath := "", byteOffset := 2 }, { name := "Up", type := 4, offset := 2, embedded := false, tag := "", pkgPath := "", byteOffset := 4 }], size := 3, bytes := 6, zero := [Value.int IntKind.i16 0, Value.int IntKind.i16 0, Value.bool false], fl := true } := ⟨rfl⟩
theorem Q_57 : eqOf Try.prog 57 = true := by decide +kernel
instance I_58 : TyIs Try.prog 58 { und := TypeDesc.struct #[{ name := "Bias", type := 22, offset := 0, embedded := false, tag := "", pkgPath := "", byteOffset := 0 }, { name := "Unit", type := 22, offset := 1, embedded := false, tag := "", pkgPath := "", byteOffset := 2 }, { name := "Up", type := 4, offset := 2, embedded := false, tag := "", pkgPath := "", byteOffset := 4 }], size := 3, bytes := 6, zero := [Value.int IntKind.i16 0, Value.int IntKind.i16 0, Value.bool false], fl := true } := ⟨rfl⟩
theorem Q_58 : eqOf Try.prog 58 = true := by decide +kernel
instance I_59 : TyIs Try.prog 59 { und := TypeDesc.func #[] #[58] false, size := 1, bytes := 8, zero := [Value.nilFunc], fl := false } := ⟨rfl⟩
instance I_60 : TyIs Try.prog 60 { und := TypeDesc.func #[30] #[2] false, size := 1, bytes := 8, zero := [Value.nilFunc], fl := false } := ⟨rfl⟩
instance I_61 : TyIs Try.prog 61 { und := TypeDesc.func #[30] #[31] false, size := 1, bytes := 8, zero := [Value.nilFunc], fl := false } := ⟨rfl⟩
instance I_62 : TyIs Try.prog 62 { und := TypeDesc.func #[2, 2] #[2] false, size := 1, bytes := 8, zero := [Value.nilFunc], fl := false } := ⟨rfl⟩
instance I_63 : TyIs Try.prog 63 { und := TypeDesc.func #[2] #[2] false, size := 1, bytes := 8, zero := [Value.nilFunc], fl := false } := ⟨rfl⟩
instance I_64 : TyIs Try.prog 64 { und := TypeDesc.func #[44, 44] #[2] false, size := 1, bytes := 8, zero := [Value.nilFunc], fl := false } := ⟨rfl⟩
instance I_65 : TyIs Try.prog 65 { und := TypeDesc.func #[83] #[4] true, size := 1, bytes := 8, zero := [Value.nilFunc], fl := false } := ⟨rfl⟩
instance I_66 : TyIs Try.prog 66 { und := TypeDesc.pointer 68, size := 1, bytes := 8, zero := [Value.pointer none], fl := false } := ⟨rfl⟩
instance I_67 : TyIs Try.prog 67 { und := TypeDesc.struct #[{ name := "bad", type := 4, offset := 0, embedded := false, tag := "", pkgPath := "loop.example/g01254/impl", byteOffset := 0 }], size := 1, bytes := 1, zero := [Value.bool false], fl := true } := ⟨rfl⟩
theorem Q_67 : eqOf Try.prog 67 = true := by decide +kernel
instance I_68 : TyIs Try.prog 68 { und := TypeDesc.struct #[{ name := "bad", type := 4, offset := 0, embedded := false, tag := "", pkgPath := "loop.example/g01254/impl", byteOffset := 0 }], size := 1, bytes := 1, zero := [Value.bool false], fl := true } := ⟨rfl⟩
theorem Q_68 : eqOf Try.prog 68 = true := by decide +kernel
instance I_69 : TyIs Try.prog 69 { und := TypeDesc.func #[44] #[44, 2] false, size := 1, bytes := 8, zero := [Value.nilFunc], fl := false } := ⟨rfl⟩
instance I_70 : TyIs Try.prog 70 { und := TypeDesc.func #[44, 44] #[44] false, size := 1, bytes := 8, zero := [Value.nilFunc], fl := false } := ⟨rfl⟩
instance I_71 : TyIs Try.prog 71 { und := TypeDesc.func #[44] #[4] false, size := 1, bytes := 8, zero := [Value.nilFunc], fl := false } := ⟨rfl⟩
instance I_72 : TyIs Try.prog 72 { und := TypeDesc.func #[58, 44] #[2] false, size := 1, bytes := 8, zero := [Value.nilFunc], fl := false } := ⟨rfl⟩
instance I_73 : TyIs Try.prog 73 { und := TypeDesc.func #[54] #[58] false, size := 1, bytes := 8, zero := [Value.nilFunc], fl := false } := ⟨rfl⟩
instance I_74 : TyIs Try.prog 74 { und := TypeDesc.func #[2] #[4] false, size := 1, bytes := 8, zero := [Value.nilFunc], fl := false } := ⟨rfl⟩
instance I_76 : TyIs Try.prog 76 { und := TypeDesc.func #[44] #[2, 4] false, size := 1, bytes := 8, zero := [Value.nilFunc], fl := false } := ⟨rfl⟩
instance I_77 : TyIs Try.prog 77 { und := TypeDesc.func #[2, 2] #[44, 2] false, size := 1, bytes := 8, zero := [Value.nilFunc], fl := false } := ⟨rfl⟩
instance I_78 : TyIs Try.prog 78 { und := TypeDesc.func #[30] #[44, 2] false, size := 1, bytes := 8, zero := [Value.nilFunc], fl := false } := ⟨rfl⟩
instance I_79 : TyIs Try.prog 79 { und := TypeDesc.func #[2, 2, 2] #[4] false, size := 1, bytes := 8, zero := [Value.nilFunc], fl := false } := ⟨rfl⟩
instance I_80 : TyIs Try.prog 80 { und := TypeDesc.func #[3] #[4] false, size := 1, bytes := 8, zero := [Value.nilFunc], fl := false } := ⟨rfl⟩
instance I_81 : TyIs Try.prog 81 { und := TypeDesc.func #[30, 74] #[4] false, size := 1, bytes := 8, zero := [Value.nilFunc], fl := false } := ⟨rfl⟩
instance I_82 : TyIs Try.prog 82 { und := TypeDesc.func #[2] #[44] false, size := 1, bytes := 8, zero := [Value.nilFunc], fl := false } := ⟨rfl⟩
instance I_83 : TyIs Try.prog 83 { und := TypeDesc.slice 44, size := 1, bytes := 24, zero := [Value.slice none 0 0], fl := false } := ⟨rfl⟩
instance I_84 : TyIs Try.prog 84 { und := TypeDesc.func #[83, 71] #[4] false, size := 1, bytes := 8, zero := [Value.nilFunc], fl := false } := ⟨rfl⟩
instance I_85 : TyIs Try.prog 85 { und := TypeDesc.func #[2, 2] #[44] false, size := 1, bytes := 8, zero := [Value.nilFunc], fl := false } := ⟨rfl⟩
instance I_86 : TyIs Try.prog 86 { und := TypeDesc.func #[30, 74] #[3] false, size := 1, bytes := 8, zero := [Value.nilFunc], fl := false } := ⟨rfl⟩
instance I_87 : TyIs Try.prog 87 { und := TypeDesc.func #[83, 71] #[3] false, size := 1, bytes := 8, zero := [Value.nilFunc], fl := false } := ⟨rfl⟩
instance I_89 : TyIs Try.prog 89 { und := TypeDesc.func #[2, 2] #[44, 4] false, size := 1, bytes := 8, zero := [Value.nilFunc], fl := false } := ⟨rfl⟩
instance I_90 : TyIs Try.prog 90 { und := TypeDesc.func #[] #[44] false, size := 1, bytes := 8, zero := [Value.nilFunc], fl := false } := ⟨rfl⟩
instance I_91 : TyIs Try.prog 91 { und := TypeDesc.func #[] #[9] false, size := 1, bytes := 8, zero := [Value.nilFunc], fl := false } := ⟨rfl⟩
instance I_92 : TyIs Try.prog 92 { und := TypeDesc.struct #[{ name := "_interface", type := 17, offset := 0, embedded := false, tag := "", pkgPath := "runtime", byteOffset := 0 }, { name := "concrete", type := 17, offset := 1, embedded := false, tag := "", pkgPath := "runtime", byteOffset := 8 }, { name := "asserted", type := 17, offset := 2, embedded := false, tag := "", pkgPath := "runtime", byteOffset := 16 }, { name := "missingMethod", type := 9, offset := 3, embedded := false, tag := "", pkgPath := "runtime", byteOffset := 24 }], size := 4, bytes := 40, zero := [Value.pointer none, Value.pointer none, Value.pointer none, Value.string ⟨#[]⟩], fl := false } := ⟨rfl⟩
theorem Q_92 : eqOf Try.prog 92 = false := by decide +kernel
instance I_93 : TyIs Try.prog 93 { und := TypeDesc.struct #[{ name := "_interface", type := 17, offset := 0, embedded := false, tag := "", pkgPath := "runtime", byteOffset := 0 }, { name := "concrete", type := 17, offset := 1, embedded := false, tag := "", pkgPath := "runtime", byteOffset := 8 }, { name := "asserted", type := 17, offset := 2, embedded := false, tag := "", pkgPath := "runtime", byteOffset := 16 }, { name := "missingMethod", type := 9, offset := 3, embedded := false, tag := "", pkgPath := "runtime", byteOffset := 24 }], size := 4, bytes := 40, zero := [Value.pointer none, Value.pointer none, Value.pointer none, Value.string ⟨#[]⟩], fl := false } := ⟨rfl⟩
theorem Q_93 : eqOf Try.prog 93 = false := by decide +kernel
instance I_94 : TyIs Try.prog 94 { und := TypeDesc.array 0 16, size := 0, bytes := 0, zero := [], fl := false } := ⟨rfl⟩
instance I_95 : TyIs Try.prog 95 { und := TypeDesc.struct #[{ name := "_", type := 94, offset := 0, embedded := false, tag := "", pkgPath := "runtime", byteOffset := 0 }], size := 0, bytes := 0, zero := [], fl := false } := ⟨rfl⟩
theorem Q_95 : eqOf Try.prog 95 = false := by decide +kernel
instance I_96 : TyIs Try.prog 96 { und := TypeDesc.struct #[{ name := "_", type := 94, offset := 0, embedded := false, tag := "", pkgPath := "runtime", byteOffset := 0 }], size := 0, bytes := 0, zero := [], fl := false } := ⟨rfl⟩
theorem Q_96 : eqOf Try.prog 96 = false := by decide +kernel
instance I_97 : TyIs Try.prog 97 { und := TypeDesc.func #[] #[3] false, size := 1, bytes := 8, zero := [Value.nilFunc], fl := false } := ⟨rfl⟩
instance I_98 : TyIs Try.prog 98 { und := TypeDesc.int IntKind.u32, size := 1, bytes := 4, zero := [Value.int IntKind.u32 0], fl := true } := ⟨rfl⟩
instance I_99 : TyIs Try.prog 99 { und := TypeDesc.int IntKind.u8, size := 1, bytes := 1, zero := [Value.int IntKind.u8 0], fl := true } := ⟨rfl⟩
instance I_100 : TyIs Try.prog 100 { und := TypeDesc.int IntKind.u8, size := 1, bytes := 1, zero := [Value.int IntKind.u8 0], fl := true } := ⟨rfl⟩
instance I_101 : TyIs Try.prog 101 { und := TypeDesc.func #[108, 108] #[4] false, size := 1, bytes := 8, zero := [Value.nilFunc], fl := false } := ⟨rfl⟩
instance I_102 : TyIs Try.prog 102 { und := TypeDesc.pointer 5, size := 1, bytes := 8, zero := [Value.pointer none], fl := false } := ⟨rfl⟩
instance I_103 : TyIs Try.prog 103 { und := TypeDesc.int IntKind.i32, size := 1, bytes := 4, zero := [Value.int IntKind.i32 0], fl := true } := ⟨rfl⟩
instance I_104 : TyIs Try.prog 104 { und := TypeDesc.int IntKind.i32, size := 1, bytes := 4, zero := [Value.int IntKind.i32 0], fl := true } := ⟨rfl⟩
instance I_105 : TyIs Try.prog 105 { und := TypeDesc.struct #[{ name := "Size_", type := 12, offset := 0, embedded := false, tag := "", pkgPath := "", byteOffset := 0 }, { name := "PtrBytes", type := 12, offset := 1, embedded := false, tag := "", pkgPath := "", byteOffset := 8 }, { name := "Hash", type := 98, offset := 2, embedded := false, tag := "", pkgPath := "", byteOffset := 16 }, { name := "TFlag", type := 99, offset := 3, embedded := false, tag := "", pkgPath := "", byteOffset := 20 }, { name := "Align_", type := 5, offset := 4, embedded := false, tag := "", pkgPath := "", byteOffset := 21 }, { name := "FieldAlign_", type := 5, offset := 5, embedded := false, tag := "", pkgPath := "", byteOffset := 22 }, { name := "Kind_", type := 100, offset := 6, embedded := false, tag := "", pkgPath := "", byteOffset := 23 }, { name := "Equal", type := 101, offset := 7, embedded := false, tag := "", pkgPath := "", byteOffset := 24 }, { name := "GCData", type := 102, offset := 8, embedded := false, tag := "", pkgPath := "", byteOffset := 32 }, { name := "Str", type := 103, offset := 9, embedded := false, tag := "", pkgPath := "", byteOffset := 40 }, { name := "PtrToThis", type := 104, offset := 10, embedded := false, tag := "", pkgPath := "", byteOffset := 44 }], size := 11, bytes := 48, zero := [Value.int IntKind.u64 0, Value.int IntKind.u64 0, Value.int IntKind.u32 0, Value.int IntKind.u8 0, Value.int IntKind.u8 0, Value.int IntKind.u8 0, Value.int IntKind.u8 0, Value.nilFunc, Value.pointer none, Value.int IntKind.i32 0, Value.int IntKind.i32 0], fl := false } := ⟨rfl⟩
theorem Q_105 : eqOf Try.prog 105 = false := by decide +kernel
instance I_106 : TyIs Try.prog 106 { und := TypeDesc.struct #[{ name := "Size_", type := 12, offset := 0, embedded := false, tag := "", pkgPath := "", byteOffset := 0 }, { name := "PtrBytes", type := 12, offset := 1, embedded := false, tag := "", pkgPath := "", byteOffset := 8 }, { name := "Hash", type := 98, offset := 2, embedded := false, tag := "", pkgPath := "", byteOffset := 16 }, { name := "TFlag", type := 99, offset := 3, embedded := false, tag := "", pkgPath := "", byteOffset := 20 }, { name := "Align_", type := 5, offset := 4, embedded := false, tag := "", pkgPath := "", byteOffset := 21 }, { name := "FieldAlign_", type := 5, offset := 5, embedded := false, tag := "", pkgPath := "", byteOffset := 22 }, { name := "Kind_", type := 100, offset := 6, embedded := false, tag := "", pkgPath := "", byteOffset := 23 }, { name := "Equal", type := 101, offset := 7, embedded := false, tag := "", pkgPath := "", byteOffset := 24 }, { name := "GCData", type := 102, offset := 8, embedded := false, tag := "", pkgPath := "", byteOffset := 32 }, { name := "Str", type := 103, offset := 9, embedded := false, tag := "", pkgPath := "", byteOffset := 40 }, { name := "PtrToThis", type := 104, offset := 10, embedded := false, tag := "", pkgPath := "", byteOffset := 44 }], size := 11, bytes := 48, zero := [Value.int IntKind.u64 0, Value.int IntKind.u64 0, Value.int IntKind.u32 0, Value.int IntKind.u8 0, Value.int IntKind.u8 0, Value.int IntKind.u8 0, Value.int IntKind.u8 0, Value.nilFunc, Value.pointer none, Value.int IntKind.i32 0, Value.int IntKind.i32 0], fl := false } := ⟨rfl⟩
theorem Q_106 : eqOf Try.prog 106 = false := by decide +kernel
instance I_107 : TyIs Try.prog 107 { und := TypeDesc.func #[] #[2] false, size := 1, bytes := 8, zero := [Value.nilFunc], fl := false } := ⟨rfl⟩
instance I_108 : TyIs Try.prog 108 { und := TypeDesc.unsafePointer, size := 1, bytes := 8, zero := [Value.pointer none], fl := false } := ⟨rfl⟩
end Go.Proofs.Ytlnkffnabifedaa.Eng
