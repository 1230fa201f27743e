/- Facts on the types and functions of this translation, printed by gentypes.py. -/
import Derived.Test.YtphkmlogjgeipaaGreatDoorProg
import Derived.Test.YtphkmlogjgeipaaGreatDoorVE
import Derived.KernelRfl
namespace Go.Proofs.YtphkmlogjgeipaaGreatDoor.Ty
open Go.VL Go.Proofs
theorem mixed : Tryz.prog.follows .mixedOrders = true := eqq (by kernel_rfl)
theorem sz3 : tsz Tryz.prog 3 = some 1 := eqq (by kernel_rfl)
theorem by3 : tby Tryz.prog 3 = some 8 := eqq (by kernel_rfl)
theorem ag3 : tag Tryz.prog 3 = some false := eqq (by kernel_rfl)
theorem zr3 : tzr Tryz.prog 3 = some [.int .i64 0] := eqq (by kernel_rfl)
theorem un3 : Tryz.prog.underlying 3 = some (.int .i64) := eqq (by kernel_rfl)
theorem sz4 : tsz Tryz.prog 4 = some 1 := eqq (by kernel_rfl)
theorem by4 : tby Tryz.prog 4 = some 1 := eqq (by kernel_rfl)
theorem ag4 : tag Tryz.prog 4 = some false := eqq (by kernel_rfl)
theorem zr4 : tzr Tryz.prog 4 = some [.bool false] := eqq (by kernel_rfl)
theorem un4 : Tryz.prog.underlying 4 = some .bool := eqq (by kernel_rfl)
theorem sz5 : tsz Tryz.prog 5 = some 1 := eqq (by kernel_rfl)
theorem by5 : tby Tryz.prog 5 = some 1 := eqq (by kernel_rfl)
theorem ag5 : tag Tryz.prog 5 = some false := eqq (by kernel_rfl)
theorem zr5 : tzr Tryz.prog 5 = some [.int .u8 0] := eqq (by kernel_rfl)
theorem un5 : Tryz.prog.underlying 5 = some (.int .u8) := eqq (by kernel_rfl)
theorem sz9 : tsz Tryz.prog 9 = some 1 := eqq (by kernel_rfl)
theorem by9 : tby Tryz.prog 9 = some 16 := eqq (by kernel_rfl)
theorem ag9 : tag Tryz.prog 9 = some false := eqq (by kernel_rfl)
theorem zr9 : tzr Tryz.prog 9 = some [.string ⟨#[]⟩] := eqq (by kernel_rfl)
theorem un9 : Tryz.prog.underlying 9 = some .string := eqq (by kernel_rfl)
theorem sz22 : tsz Tryz.prog 22 = some 1 := eqq (by kernel_rfl)
theorem by22 : tby Tryz.prog 22 = some 24 := eqq (by kernel_rfl)
theorem ag22 : tag Tryz.prog 22 = some false := eqq (by kernel_rfl)
theorem zr22 : tzr Tryz.prog 22 = some [.slice none 0 0] := eqq (by kernel_rfl)
theorem un22 : Tryz.prog.underlying 22 = some (.slice 47) := eqq (by kernel_rfl)
theorem sz24 : tsz Tryz.prog 24 = some 1 := eqq (by kernel_rfl)
theorem by24 : tby Tryz.prog 24 = some 24 := eqq (by kernel_rfl)
theorem ag24 : tag Tryz.prog 24 = some true := eqq (by kernel_rfl)
theorem zr24 : tzr Tryz.prog 24 = some [.slice none 0 0] := eqq (by kernel_rfl)
theorem fl24_0 : fld Tryz.prog 24 0 = some (0, 22) := eqq (by kernel_rfl)
theorem pl24_0 : placeOf Tryz.prog 24 0 = some (0, 1) := eqq (by kernel_rfl)
theorem sz28 : tsz Tryz.prog 28 = some 3 := eqq (by kernel_rfl)
theorem by28 : tby Tryz.prog 28 = some 32 := eqq (by kernel_rfl)
theorem ag28 : tag Tryz.prog 28 = some true := eqq (by kernel_rfl)
theorem zr28 : tzr Tryz.prog 28 = some [.int .i64 0, .int .i64 0, .string ⟨#[]⟩] := eqq (by kernel_rfl)
theorem fl28_0 : fld Tryz.prog 28 0 = some (0, 3) := eqq (by kernel_rfl)
theorem pl28_0 : placeOf Tryz.prog 28 0 = some (0, 1) := eqq (by kernel_rfl)
theorem fl28_1 : fld Tryz.prog 28 1 = some (1, 3) := eqq (by kernel_rfl)
theorem pl28_1 : placeOf Tryz.prog 28 1 = some (1, 1) := eqq (by kernel_rfl)
theorem fl28_2 : fld Tryz.prog 28 2 = some (2, 9) := eqq (by kernel_rfl)
theorem pl28_2 : placeOf Tryz.prog 28 2 = some (2, 1) := eqq (by kernel_rfl)
theorem sz29 : tsz Tryz.prog 29 = some 1 := eqq (by kernel_rfl)
theorem by29 : tby Tryz.prog 29 = some 24 := eqq (by kernel_rfl)
theorem ag29 : tag Tryz.prog 29 = some false := eqq (by kernel_rfl)
theorem zr29 : tzr Tryz.prog 29 = some [.slice none 0 0] := eqq (by kernel_rfl)
theorem un29 : Tryz.prog.underlying 29 = some (.slice 103) := eqq (by kernel_rfl)
theorem sz31 : tsz Tryz.prog 31 = some 2 := eqq (by kernel_rfl)
theorem by31 : tby Tryz.prog 31 = some 16 := eqq (by kernel_rfl)
theorem ag31 : tag Tryz.prog 31 = some true := eqq (by kernel_rfl)
theorem zr31 : tzr Tryz.prog 31 = some [.int .i64 0, .int .i64 0] := eqq (by kernel_rfl)
theorem fl31_0 : fld Tryz.prog 31 0 = some (0, 3) := eqq (by kernel_rfl)
theorem pl31_0 : placeOf Tryz.prog 31 0 = some (0, 1) := eqq (by kernel_rfl)
theorem fl31_1 : fld Tryz.prog 31 1 = some (1, 3) := eqq (by kernel_rfl)
theorem pl31_1 : placeOf Tryz.prog 31 1 = some (1, 1) := eqq (by kernel_rfl)
theorem sz32 : tsz Tryz.prog 32 = some 1 := eqq (by kernel_rfl)
theorem by32 : tby Tryz.prog 32 = some 24 := eqq (by kernel_rfl)
theorem ag32 : tag Tryz.prog 32 = some false := eqq (by kernel_rfl)
theorem zr32 : tzr Tryz.prog 32 = some [.slice none 0 0] := eqq (by kernel_rfl)
theorem un32 : Tryz.prog.underlying 32 = some (.slice 34) := eqq (by kernel_rfl)
theorem sz34 : tsz Tryz.prog 34 = some 12 := eqq (by kernel_rfl)
theorem by34 : tby Tryz.prog 34 = some 160 := eqq (by kernel_rfl)
theorem ag34 : tag Tryz.prog 34 = some true := eqq (by kernel_rfl)
theorem zr34 : tzr Tryz.prog 34 = some [.int .i64 0, .string ⟨#[]⟩, .string ⟨#[]⟩, .string ⟨#[]⟩, .int .i64 0, .int .i64 0, .string ⟨#[]⟩, .slice none 0 0, .int .i64 0, .int .i64 0, .int .i64 0, .slice none 0 0] := eqq (by kernel_rfl)
theorem fl34_0 : fld Tryz.prog 34 0 = some (0, 3) := eqq (by kernel_rfl)
theorem pl34_0 : placeOf Tryz.prog 34 0 = some (0, 1) := eqq (by kernel_rfl)
theorem fl34_1 : fld Tryz.prog 34 1 = some (1, 9) := eqq (by kernel_rfl)
theorem pl34_1 : placeOf Tryz.prog 34 1 = some (1, 1) := eqq (by kernel_rfl)
theorem fl34_2 : fld Tryz.prog 34 2 = some (2, 9) := eqq (by kernel_rfl)
theorem pl34_2 : placeOf Tryz.prog 34 2 = some (2, 1) := eqq (by kernel_rfl)
theorem fl34_3 : fld Tryz.prog 34 3 = some (3, 9) := eqq (by kernel_rfl)
theorem pl34_3 : placeOf Tryz.prog 34 3 = some (3, 1) := eqq (by kernel_rfl)
theorem fl34_4 : fld Tryz.prog 34 4 = some (4, 28) := eqq (by kernel_rfl)
theorem pl34_4 : placeOf Tryz.prog 34 4 = some (4, 3) := eqq (by kernel_rfl)
theorem fl34_5 : fld Tryz.prog 34 5 = some (7, 29) := eqq (by kernel_rfl)
theorem pl34_5 : placeOf Tryz.prog 34 5 = some (7, 1) := eqq (by kernel_rfl)
theorem fl34_6 : fld Tryz.prog 34 6 = some (8, 3) := eqq (by kernel_rfl)
theorem pl34_6 : placeOf Tryz.prog 34 6 = some (8, 1) := eqq (by kernel_rfl)
theorem fl34_7 : fld Tryz.prog 34 7 = some (9, 31) := eqq (by kernel_rfl)
theorem pl34_7 : placeOf Tryz.prog 34 7 = some (9, 2) := eqq (by kernel_rfl)
theorem fl34_8 : fld Tryz.prog 34 8 = some (11, 32) := eqq (by kernel_rfl)
theorem pl34_8 : placeOf Tryz.prog 34 8 = some (11, 1) := eqq (by kernel_rfl)
theorem sz35 : tsz Tryz.prog 35 = some 1 := eqq (by kernel_rfl)
theorem by35 : tby Tryz.prog 35 = some 8 := eqq (by kernel_rfl)
theorem ag35 : tag Tryz.prog 35 = some false := eqq (by kernel_rfl)
theorem zr35 : tzr Tryz.prog 35 = some [.int .i64 0] := eqq (by kernel_rfl)
theorem un35 : Tryz.prog.underlying 35 = some (.int .i64) := eqq (by kernel_rfl)
theorem sz36 : tsz Tryz.prog 36 = some 1 := eqq (by kernel_rfl)
theorem by36 : tby Tryz.prog 36 = some 0 := eqq (by kernel_rfl)
theorem ag36 : tag Tryz.prog 36 = some false := eqq (by kernel_rfl)
theorem sz38 : tsz Tryz.prog 38 = some 1 := eqq (by kernel_rfl)
theorem by38 : tby Tryz.prog 38 = some 8 := eqq (by kernel_rfl)
theorem ag38 : tag Tryz.prog 38 = some false := eqq (by kernel_rfl)
theorem zr38 : tzr Tryz.prog 38 = some [.nilFunc] := eqq (by kernel_rfl)
theorem sz42 : tsz Tryz.prog 42 = some 1 := eqq (by kernel_rfl)
theorem by42 : tby Tryz.prog 42 = some 0 := eqq (by kernel_rfl)
theorem ag42 : tag Tryz.prog 42 = some false := eqq (by kernel_rfl)
theorem sz45 : tsz Tryz.prog 45 = some 1 := eqq (by kernel_rfl)
theorem by45 : tby Tryz.prog 45 = some 24 := eqq (by kernel_rfl)
theorem ag45 : tag Tryz.prog 45 = some false := eqq (by kernel_rfl)
theorem zr45 : tzr Tryz.prog 45 = some [.slice none 0 0] := eqq (by kernel_rfl)
theorem un45 : Tryz.prog.underlying 45 = some (.slice 3) := eqq (by kernel_rfl)
theorem sz47 : tsz Tryz.prog 47 = some 23 := eqq (by kernel_rfl)
theorem by47 : tby Tryz.prog 47 = some 296 := eqq (by kernel_rfl)
theorem ag47 : tag Tryz.prog 47 = some true := eqq (by kernel_rfl)
theorem zr47 : tzr Tryz.prog 47 = some [.int .i64 0, .string ⟨#[]⟩, .int .i64 0, .string ⟨#[]⟩, .string ⟨#[]⟩, .string ⟨#[]⟩, .int .i64 0, .int .i64 0, .string ⟨#[]⟩, .slice none 0 0, .int .i64 0, .int .i64 0, .int .i64 0, .slice none 0 0, .string ⟨#[]⟩, .int .i64 0, .int .i64 0, .int .i64 0, .int .i64 0, .int .i64 0, .string ⟨#[]⟩, .string ⟨#[]⟩, .slice none 0 0] := eqq (by kernel_rfl)
theorem fl47_0 : fld Tryz.prog 47 0 = some (0, 3) := eqq (by kernel_rfl)
theorem pl47_0 : placeOf Tryz.prog 47 0 = some (0, 1) := eqq (by kernel_rfl)
theorem fl47_1 : fld Tryz.prog 47 1 = some (1, 9) := eqq (by kernel_rfl)
theorem pl47_1 : placeOf Tryz.prog 47 1 = some (1, 1) := eqq (by kernel_rfl)
theorem fl47_2 : fld Tryz.prog 47 2 = some (2, 34) := eqq (by kernel_rfl)
theorem pl47_2 : placeOf Tryz.prog 47 2 = some (2, 12) := eqq (by kernel_rfl)
theorem fl47_3 : fld Tryz.prog 47 3 = some (14, 9) := eqq (by kernel_rfl)
theorem pl47_3 : placeOf Tryz.prog 47 3 = some (14, 1) := eqq (by kernel_rfl)
theorem fl47_4 : fld Tryz.prog 47 4 = some (15, 3) := eqq (by kernel_rfl)
theorem pl47_4 : placeOf Tryz.prog 47 4 = some (15, 1) := eqq (by kernel_rfl)
theorem fl47_5 : fld Tryz.prog 47 5 = some (16, 31) := eqq (by kernel_rfl)
theorem pl47_5 : placeOf Tryz.prog 47 5 = some (16, 2) := eqq (by kernel_rfl)
theorem fl47_6 : fld Tryz.prog 47 6 = some (18, 28) := eqq (by kernel_rfl)
theorem pl47_6 : placeOf Tryz.prog 47 6 = some (18, 3) := eqq (by kernel_rfl)
theorem fl47_7 : fld Tryz.prog 47 7 = some (21, 9) := eqq (by kernel_rfl)
theorem pl47_7 : placeOf Tryz.prog 47 7 = some (21, 1) := eqq (by kernel_rfl)
theorem fl47_8 : fld Tryz.prog 47 8 = some (22, 45) := eqq (by kernel_rfl)
theorem pl47_8 : placeOf Tryz.prog 47 8 = some (22, 1) := eqq (by kernel_rfl)
theorem sz49 : tsz Tryz.prog 49 = some 3 := eqq (by kernel_rfl)
theorem by49 : tby Tryz.prog 49 = some 48 := eqq (by kernel_rfl)
theorem ag49 : tag Tryz.prog 49 = some true := eqq (by kernel_rfl)
theorem zr49 : tzr Tryz.prog 49 = some [.int .i64 0, .slice none 0 0, .string ⟨#[]⟩] := eqq (by kernel_rfl)
theorem fl49_0 : fld Tryz.prog 49 0 = some (0, 3) := eqq (by kernel_rfl)
theorem pl49_0 : placeOf Tryz.prog 49 0 = some (0, 1) := eqq (by kernel_rfl)
theorem fl49_1 : fld Tryz.prog 49 1 = some (1, 29) := eqq (by kernel_rfl)
theorem pl49_1 : placeOf Tryz.prog 49 1 = some (1, 1) := eqq (by kernel_rfl)
theorem fl49_2 : fld Tryz.prog 49 2 = some (2, 9) := eqq (by kernel_rfl)
theorem pl49_2 : placeOf Tryz.prog 49 2 = some (2, 1) := eqq (by kernel_rfl)
theorem sz51 : tsz Tryz.prog 51 = some 18 := eqq (by kernel_rfl)
theorem by51 : tby Tryz.prog 51 = some 248 := eqq (by kernel_rfl)
theorem ag51 : tag Tryz.prog 51 = some true := eqq (by kernel_rfl)
theorem zr51 : tzr Tryz.prog 51 = some [.string ⟨#[]⟩, .string ⟨#[]⟩, .int .i64 0, .slice none 0 0, .string ⟨#[]⟩, .int .i64 0, .string ⟨#[]⟩, .string ⟨#[]⟩, .string ⟨#[]⟩, .int .i64 0, .int .i64 0, .string ⟨#[]⟩, .slice none 0 0, .int .i64 0, .int .i64 0, .int .i64 0, .slice none 0 0, .int .i64 0] := eqq (by kernel_rfl)
theorem fl51_0 : fld Tryz.prog 51 0 = some (0, 9) := eqq (by kernel_rfl)
theorem pl51_0 : placeOf Tryz.prog 51 0 = some (0, 1) := eqq (by kernel_rfl)
theorem fl51_1 : fld Tryz.prog 51 1 = some (1, 9) := eqq (by kernel_rfl)
theorem pl51_1 : placeOf Tryz.prog 51 1 = some (1, 1) := eqq (by kernel_rfl)
theorem fl51_2 : fld Tryz.prog 51 2 = some (2, 49) := eqq (by kernel_rfl)
theorem pl51_2 : placeOf Tryz.prog 51 2 = some (2, 3) := eqq (by kernel_rfl)
theorem fl51_3 : fld Tryz.prog 51 3 = some (5, 34) := eqq (by kernel_rfl)
theorem pl51_3 : placeOf Tryz.prog 51 3 = some (5, 12) := eqq (by kernel_rfl)
theorem fl51_4 : fld Tryz.prog 51 4 = some (17, 3) := eqq (by kernel_rfl)
theorem pl51_4 : placeOf Tryz.prog 51 4 = some (17, 1) := eqq (by kernel_rfl)
theorem sz53 : tsz Tryz.prog 53 = some 4 := eqq (by kernel_rfl)
theorem by53 : tby Tryz.prog 53 = some 64 := eqq (by kernel_rfl)
theorem ag53 : tag Tryz.prog 53 = some true := eqq (by kernel_rfl)
theorem zr53 : tzr Tryz.prog 53 = some [.string ⟨#[]⟩, .int .i64 0, .slice none 0 0, .string ⟨#[]⟩] := eqq (by kernel_rfl)
theorem fl53_0 : fld Tryz.prog 53 0 = some (0, 9) := eqq (by kernel_rfl)
theorem pl53_0 : placeOf Tryz.prog 53 0 = some (0, 1) := eqq (by kernel_rfl)
theorem fl53_1 : fld Tryz.prog 53 1 = some (1, 49) := eqq (by kernel_rfl)
theorem pl53_1 : placeOf Tryz.prog 53 1 = some (1, 3) := eqq (by kernel_rfl)
theorem sz54 : tsz Tryz.prog 54 = some 1 := eqq (by kernel_rfl)
theorem by54 : tby Tryz.prog 54 = some 24 := eqq (by kernel_rfl)
theorem ag54 : tag Tryz.prog 54 = some false := eqq (by kernel_rfl)
theorem zr54 : tzr Tryz.prog 54 = some [.slice none 0 0] := eqq (by kernel_rfl)
theorem un54 : Tryz.prog.underlying 54 = some (.slice 53) := eqq (by kernel_rfl)
theorem sz56 : tsz Tryz.prog 56 = some 4 := eqq (by kernel_rfl)
theorem by56 : tby Tryz.prog 56 = some 64 := eqq (by kernel_rfl)
theorem ag56 : tag Tryz.prog 56 = some true := eqq (by kernel_rfl)
theorem zr56 : tzr Tryz.prog 56 = some [.string ⟨#[]⟩, .string ⟨#[]⟩, .slice none 0 0, .int .i64 0] := eqq (by kernel_rfl)
theorem fl56_0 : fld Tryz.prog 56 0 = some (0, 9) := eqq (by kernel_rfl)
theorem pl56_0 : placeOf Tryz.prog 56 0 = some (0, 1) := eqq (by kernel_rfl)
theorem fl56_1 : fld Tryz.prog 56 1 = some (1, 9) := eqq (by kernel_rfl)
theorem pl56_1 : placeOf Tryz.prog 56 1 = some (1, 1) := eqq (by kernel_rfl)
theorem fl56_2 : fld Tryz.prog 56 2 = some (2, 54) := eqq (by kernel_rfl)
theorem pl56_2 : placeOf Tryz.prog 56 2 = some (2, 1) := eqq (by kernel_rfl)
theorem fl56_3 : fld Tryz.prog 56 3 = some (3, 3) := eqq (by kernel_rfl)
theorem pl56_3 : placeOf Tryz.prog 56 3 = some (3, 1) := eqq (by kernel_rfl)
theorem sz57 : tsz Tryz.prog 57 = some 1 := eqq (by kernel_rfl)
theorem by57 : tby Tryz.prog 57 = some 24 := eqq (by kernel_rfl)
theorem ag57 : tag Tryz.prog 57 = some false := eqq (by kernel_rfl)
theorem zr57 : tzr Tryz.prog 57 = some [.slice none 0 0] := eqq (by kernel_rfl)
theorem un57 : Tryz.prog.underlying 57 = some (.slice 56) := eqq (by kernel_rfl)
theorem sz58 : tsz Tryz.prog 58 = some 1 := eqq (by kernel_rfl)
theorem by58 : tby Tryz.prog 58 = some 24 := eqq (by kernel_rfl)
theorem ag58 : tag Tryz.prog 58 = some false := eqq (by kernel_rfl)
theorem zr58 : tzr Tryz.prog 58 = some [.slice none 0 0] := eqq (by kernel_rfl)
theorem un58 : Tryz.prog.underlying 58 = some (.slice 51) := eqq (by kernel_rfl)
theorem sz60 : tsz Tryz.prog 60 = some 4 := eqq (by kernel_rfl)
theorem by60 : tby Tryz.prog 60 = some 96 := eqq (by kernel_rfl)
theorem ag60 : tag Tryz.prog 60 = some true := eqq (by kernel_rfl)
theorem zr60 : tzr Tryz.prog 60 = some [.slice none 0 0, .slice none 0 0, .slice none 0 0, .slice none 0 0] := eqq (by kernel_rfl)
theorem fl60_0 : fld Tryz.prog 60 0 = some (0, 57) := eqq (by kernel_rfl)
theorem pl60_0 : placeOf Tryz.prog 60 0 = some (0, 1) := eqq (by kernel_rfl)
theorem fl60_1 : fld Tryz.prog 60 1 = some (1, 58) := eqq (by kernel_rfl)
theorem pl60_1 : placeOf Tryz.prog 60 1 = some (1, 1) := eqq (by kernel_rfl)
theorem fl60_2 : fld Tryz.prog 60 2 = some (2, 58) := eqq (by kernel_rfl)
theorem pl60_2 : placeOf Tryz.prog 60 2 = some (2, 1) := eqq (by kernel_rfl)
theorem fl60_3 : fld Tryz.prog 60 3 = some (3, 58) := eqq (by kernel_rfl)
theorem pl60_3 : placeOf Tryz.prog 60 3 = some (3, 1) := eqq (by kernel_rfl)
theorem sz63 : tsz Tryz.prog 63 = some 1 := eqq (by kernel_rfl)
theorem by63 : tby Tryz.prog 63 = some 8 := eqq (by kernel_rfl)
theorem ag63 : tag Tryz.prog 63 = some false := eqq (by kernel_rfl)
theorem zr63 : tzr Tryz.prog 63 = some [.nilFunc] := eqq (by kernel_rfl)
theorem sz64 : tsz Tryz.prog 64 = some 1 := eqq (by kernel_rfl)
theorem by64 : tby Tryz.prog 64 = some 0 := eqq (by kernel_rfl)
theorem ag64 : tag Tryz.prog 64 = some false := eqq (by kernel_rfl)
theorem sz67 : tsz Tryz.prog 67 = some 1 := eqq (by kernel_rfl)
theorem by67 : tby Tryz.prog 67 = some 8 := eqq (by kernel_rfl)
theorem ag67 : tag Tryz.prog 67 = some false := eqq (by kernel_rfl)
theorem zr67 : tzr Tryz.prog 67 = some [.nilFunc] := eqq (by kernel_rfl)
theorem sz72 : tsz Tryz.prog 72 = some 1 := eqq (by kernel_rfl)
theorem by72 : tby Tryz.prog 72 = some 8 := eqq (by kernel_rfl)
theorem ag72 : tag Tryz.prog 72 = some false := eqq (by kernel_rfl)
theorem zr72 : tzr Tryz.prog 72 = some [.pointer none] := eqq (by kernel_rfl)
theorem un72 : Tryz.prog.underlying 72 = some (.pointer 74) := eqq (by kernel_rfl)
theorem sz74 : tsz Tryz.prog 74 = some 2 := eqq (by kernel_rfl)
theorem by74 : tby Tryz.prog 74 = some 32 := eqq (by kernel_rfl)
theorem ag74 : tag Tryz.prog 74 = some true := eqq (by kernel_rfl)
theorem zr74 : tzr Tryz.prog 74 = some [.slice none 0 0, .nilFunc] := eqq (by kernel_rfl)
theorem fl74_0 : fld Tryz.prog 74 0 = some (0, 22) := eqq (by kernel_rfl)
theorem pl74_0 : placeOf Tryz.prog 74 0 = some (0, 1) := eqq (by kernel_rfl)
theorem fl74_1 : fld Tryz.prog 74 1 = some (1, 67) := eqq (by kernel_rfl)
theorem pl74_1 : placeOf Tryz.prog 74 1 = some (1, 1) := eqq (by kernel_rfl)
theorem sz78 : tsz Tryz.prog 78 = some 1 := eqq (by kernel_rfl)
theorem by78 : tby Tryz.prog 78 = some 24 := eqq (by kernel_rfl)
theorem ag78 : tag Tryz.prog 78 = some false := eqq (by kernel_rfl)
theorem zr78 : tzr Tryz.prog 78 = some [.slice none 0 0] := eqq (by kernel_rfl)
theorem un78 : Tryz.prog.underlying 78 = some (.slice 9) := eqq (by kernel_rfl)
theorem sz79 : tsz Tryz.prog 79 = some 1 := eqq (by kernel_rfl)
theorem by79 : tby Tryz.prog 79 = some 8 := eqq (by kernel_rfl)
theorem ag79 : tag Tryz.prog 79 = some false := eqq (by kernel_rfl)
theorem zr79 : tzr Tryz.prog 79 = some [.nilFunc] := eqq (by kernel_rfl)
theorem sz80 : tsz Tryz.prog 80 = some 1 := eqq (by kernel_rfl)
theorem by80 : tby Tryz.prog 80 = some 0 := eqq (by kernel_rfl)
theorem ag80 : tag Tryz.prog 80 = some false := eqq (by kernel_rfl)
theorem sz82 : tsz Tryz.prog 82 = some 1 := eqq (by kernel_rfl)
theorem by82 : tby Tryz.prog 82 = some 0 := eqq (by kernel_rfl)
theorem ag82 : tag Tryz.prog 82 = some false := eqq (by kernel_rfl)
theorem sz84 : tsz Tryz.prog 84 = some 1 := eqq (by kernel_rfl)
theorem by84 : tby Tryz.prog 84 = some 24 := eqq (by kernel_rfl)
theorem ag84 : tag Tryz.prog 84 = some false := eqq (by kernel_rfl)
theorem zr84 : tzr Tryz.prog 84 = some [.slice none 0 0] := eqq (by kernel_rfl)
theorem un84 : Tryz.prog.underlying 84 = some (.slice 5) := eqq (by kernel_rfl)
theorem sz88 : tsz Tryz.prog 88 = some 1 := eqq (by kernel_rfl)
theorem by88 : tby Tryz.prog 88 = some 0 := eqq (by kernel_rfl)
theorem ag88 : tag Tryz.prog 88 = some false := eqq (by kernel_rfl)
theorem sz93 : tsz Tryz.prog 93 = some 1 := eqq (by kernel_rfl)
theorem by93 : tby Tryz.prog 93 = some 8 := eqq (by kernel_rfl)
theorem ag93 : tag Tryz.prog 93 = some false := eqq (by kernel_rfl)
theorem zr93 : tzr Tryz.prog 93 = some [.nilFunc] := eqq (by kernel_rfl)
theorem sz95 : tsz Tryz.prog 95 = some 1 := eqq (by kernel_rfl)
theorem by95 : tby Tryz.prog 95 = some 8 := eqq (by kernel_rfl)
theorem ag95 : tag Tryz.prog 95 = some false := eqq (by kernel_rfl)
theorem zr95 : tzr Tryz.prog 95 = some [.map none] := eqq (by kernel_rfl)
theorem un95 : Tryz.prog.underlying 95 = some (.map 9 4) := eqq (by kernel_rfl)
theorem sz98 : tsz Tryz.prog 98 = some 1 := eqq (by kernel_rfl)
theorem by98 : tby Tryz.prog 98 = some 8 := eqq (by kernel_rfl)
theorem ag98 : tag Tryz.prog 98 = some false := eqq (by kernel_rfl)
theorem zr98 : tzr Tryz.prog 98 = some [.nilFunc] := eqq (by kernel_rfl)
theorem sz99 : tsz Tryz.prog 99 = some 1 := eqq (by kernel_rfl)
theorem by99 : tby Tryz.prog 99 = some 8 := eqq (by kernel_rfl)
theorem ag99 : tag Tryz.prog 99 = some false := eqq (by kernel_rfl)
theorem zr99 : tzr Tryz.prog 99 = some [.nilFunc] := eqq (by kernel_rfl)
theorem sz103 : tsz Tryz.prog 103 = some 2 := eqq (by kernel_rfl)
theorem by103 : tby Tryz.prog 103 = some 24 := eqq (by kernel_rfl)
theorem ag103 : tag Tryz.prog 103 = some true := eqq (by kernel_rfl)
theorem zr103 : tzr Tryz.prog 103 = some [.string ⟨#[]⟩, .int .i64 0] := eqq (by kernel_rfl)
theorem fl103_0 : fld Tryz.prog 103 0 = some (0, 9) := eqq (by kernel_rfl)
theorem pl103_0 : placeOf Tryz.prog 103 0 = some (0, 1) := eqq (by kernel_rfl)
theorem fl103_1 : fld Tryz.prog 103 1 = some (1, 3) := eqq (by kernel_rfl)
theorem pl103_1 : placeOf Tryz.prog 103 1 = some (1, 1) := eqq (by kernel_rfl)
theorem sz109 : tsz Tryz.prog 109 = some 1 := eqq (by kernel_rfl)
theorem by109 : tby Tryz.prog 109 = some 8 := eqq (by kernel_rfl)
theorem ag109 : tag Tryz.prog 109 = some false := eqq (by kernel_rfl)
theorem zr109 : tzr Tryz.prog 109 = some [.nilFunc] := eqq (by kernel_rfl)
theorem sz112 : tsz Tryz.prog 112 = some 1 := eqq (by kernel_rfl)
theorem by112 : tby Tryz.prog 112 = some 8 := eqq (by kernel_rfl)
theorem ag112 : tag Tryz.prog 112 = some false := eqq (by kernel_rfl)
theorem zr112 : tzr Tryz.prog 112 = some [.nilFunc] := eqq (by kernel_rfl)
theorem sz113 : tsz Tryz.prog 113 = some 1 := eqq (by kernel_rfl)
theorem by113 : tby Tryz.prog 113 = some 0 := eqq (by kernel_rfl)
theorem ag113 : tag Tryz.prog 113 = some false := eqq (by kernel_rfl)
theorem sz118 : tsz Tryz.prog 118 = some 1 := eqq (by kernel_rfl)
theorem by118 : tby Tryz.prog 118 = some 8 := eqq (by kernel_rfl)
theorem ag118 : tag Tryz.prog 118 = some false := eqq (by kernel_rfl)
theorem zr118 : tzr Tryz.prog 118 = some [.nilFunc] := eqq (by kernel_rfl)
theorem eq28 : eqT Tryz.prog 28 = some [.i .i64, .i .i64, .s] := eqq (by kernel_rfl)
theorem eq31 : eqT Tryz.prog 31 = some [.i .i64, .i .i64] := eqq (by kernel_rfl)
theorem eq103 : eqT Tryz.prog 103 = some [.s, .i .i64] := eqq (by kernel_rfl)
theorem mp95 : mapT Tryz.prog 95 = some (9, ([.s], false), .lit (.bool false)) := eqq (by kernel_rfl)
theorem cb4 : callB Tryz.prog 4 = true := eqq (by kernel_rfl)   -- asof/asoflaw19.example
theorem cb5 : callB Tryz.prog 5 = true := eqq (by kernel_rfl)   -- asof/asoflaw19.small
theorem cb6 : callB Tryz.prog 6 = true := eqq (by kernel_rfl)   -- asof/lower.Raise
theorem cb7 : callB Tryz.prog 7 = true := eqq (by kernel_rfl)   -- asof/asofref19.Raise
theorem cb8 : callB Tryz.prog 8 = true := eqq (by kernel_rfl)   -- asof/asofref10.SameExpr
theorem cb9 : callB Tryz.prog 9 = true := eqq (by kernel_rfl)   -- asof/lower.Check
theorem cb10 : callB Tryz.prog 10 = true := eqq (by kernel_rfl)   -- asof/asofref19.Check
theorem cb11 : callB Tryz.prog 11 = true := eqq (by kernel_rfl)   -- asof/asoflaw19.over
theorem cb12 : callB Tryz.prog 12 = true := eqq (by kernel_rfl)   -- asof/asofref10.True
theorem cb13 : callB Tryz.prog 13 = true := eqq (by kernel_rfl)   -- asof/lower.Graph
theorem cb14 : callB Tryz.prog 14 = true := eqq (by kernel_rfl)   -- asof/asoflaw19.binary
theorem cb15 : callB Tryz.prog 15 = true := eqq (by kernel_rfl)   -- asof/lower.Class
theorem cb16 : callB Tryz.prog 16 = true := eqq (by kernel_rfl)   -- asof/asoflaw19.kinds
theorem cb17 : callB Tryz.prog 17 = true := eqq (by kernel_rfl)   -- asof/asofref10.Size
theorem cb18 : callB Tryz.prog 18 = true := eqq (by kernel_rfl)   -- asof/lower.node
theorem cb19 : callB Tryz.prog 19 = true := eqq (by kernel_rfl)   -- slices.EqualFunc[[]asof/api.Node,[]asof/api.Node,asof/api.Node,asof/api.Node]
theorem cb20 : callB Tryz.prog 20 = true := eqq (by kernel_rfl)   -- asof/lower.sameNode
theorem cb21 : callB Tryz.prog 21 = true := eqq (by kernel_rfl)   -- asof/asofref19.earlier
theorem cb22 : callB Tryz.prog 22 = true := eqq (by kernel_rfl)   -- asof/asofref19.sizes
theorem cb23 : callB Tryz.prog 23 = true := eqq (by kernel_rfl)   -- asof/asofref19.unfold
theorem cb24 : callB Tryz.prog 24 = true := eqq (by kernel_rfl)   -- asof/asofref19.Graph
theorem cb25 : callB Tryz.prog 25 = true := eqq (by kernel_rfl)   -- asof/asofref19.Same
theorem cb26 : callB Tryz.prog 26 = true := eqq (by kernel_rfl)   -- asof/asofref10.flat
theorem cb27 : callB Tryz.prog 27 = true := eqq (by kernel_rfl)   -- asof/checker.Shape
theorem cb28 : callB Tryz.prog 28 = true := eqq (by kernel_rfl)   -- asof/lower.Graph$1
theorem cb29 : callB Tryz.prog 29 = true := eqq (by kernel_rfl)   -- (*asof/lower.shared[asof/api.Node]).put
theorem cb30 : callB Tryz.prog 30 = true := eqq (by kernel_rfl)   -- asof/lower.Class$1
theorem cb31 : callB Tryz.prog 31 = true := eqq (by kernel_rfl)   -- asof/lower.each
theorem cb32 : callB Tryz.prog 32 = true := eqq (by kernel_rfl)   -- asof/lower.Class$1$1
theorem cb33 : callB Tryz.prog 33 = true := eqq (by kernel_rfl)   -- slices.Contains[[]string,string]
theorem cb34 : callB Tryz.prog 34 = true := eqq (by kernel_rfl)   -- asof/catalog.Uses
theorem cb35 : callB Tryz.prog 35 = true := eqq (by kernel_rfl)   -- asof/catalog.Feature
theorem cb36 : callB Tryz.prog 36 = true := eqq (by kernel_rfl)   -- slices.Equal[[]int,int]
theorem cb37 : callB Tryz.prog 37 = true := eqq (by kernel_rfl)   -- asof/lower.sameExpr
theorem cb38 : callB Tryz.prog 38 = true := eqq (by kernel_rfl)   -- asof/asofref19.chain
theorem cb39 : callB Tryz.prog 39 = true := eqq (by kernel_rfl)   -- asof/asofref19.raise
theorem cb40 : callB Tryz.prog 40 = true := eqq (by kernel_rfl)   -- asof/asofref10.Shape
theorem cb41 : callB Tryz.prog 41 = true := eqq (by kernel_rfl)   -- asof/asofref19.lower
theorem cb42 : callB Tryz.prog 42 = true := eqq (by kernel_rfl)   -- asof/asofref19.SameNode
theorem cb43 : callB Tryz.prog 43 = true := eqq (by kernel_rfl)   -- asof/asofref07.Same
theorem cb44 : callB Tryz.prog 44 = true := eqq (by kernel_rfl)   -- asof/checker.Size
theorem cb45 : callB Tryz.prog 45 = true := eqq (by kernel_rfl)   -- asof/checker.Depth
theorem cb46 : callB Tryz.prog 46 = true := eqq (by kernel_rfl)   -- asof/checker.proper
theorem cb47 : callB Tryz.prog 47 = true := eqq (by kernel_rfl)   -- slices.IndexFunc[[]asof/api.Node,asof/api.Node]
theorem cb48 : callB Tryz.prog 48 = true := eqq (by kernel_rfl)   -- (*asof/lower.shared[asof/api.Node]).put$1
theorem cb49 : callB Tryz.prog 49 = true := eqq (by kernel_rfl)   -- slices.Index[[]string,string]
theorem cb50 : callB Tryz.prog 50 = true := eqq (by kernel_rfl)   -- asof/catalog.direct
theorem cb51 : callB Tryz.prog 51 = true := eqq (by kernel_rfl)   -- slices.Sorted[string]
theorem cb52 : callB Tryz.prog 52 = true := eqq (by kernel_rfl)   -- maps.Keys[map[string]bool,string,bool]
theorem cb53 : callB Tryz.prog 53 = true := eqq (by kernel_rfl)   -- asof/catalog.find
theorem cb54 : callB Tryz.prog 54 = true := eqq (by kernel_rfl)   -- slices.Equal[[]asof/api.Factor,asof/api.Factor]
theorem cb55 : callB Tryz.prog 55 = true := eqq (by kernel_rfl)   -- slices.EqualFunc[[]asof/api.Expr,[]asof/api.Expr,asof/api.Expr,asof/api.Expr]
theorem cb56 : callB Tryz.prog 56 = true := eqq (by kernel_rfl)   -- asof/asofref10.Depth
theorem cb57 : callB Tryz.prog 57 = true := eqq (by kernel_rfl)   -- asof/asofref10.Form
theorem cb58 : callB Tryz.prog 58 = true := eqq (by kernel_rfl)   -- asof/asofref19.over
theorem cb59 : callB Tryz.prog 59 = true := eqq (by kernel_rfl)   -- asof/asofref19.own
theorem cb60 : callB Tryz.prog 60 = true := eqq (by kernel_rfl)   -- asof/asofref19.put
theorem cb61 : callB Tryz.prog 61 = true := eqq (by kernel_rfl)   -- asof/asofref19.sameInts
theorem cb62 : callB Tryz.prog 62 = true := eqq (by kernel_rfl)   -- asof/values.Check
theorem cb63 : callB Tryz.prog 63 = true := eqq (by kernel_rfl)   -- asof/checker.Type
theorem cb64 : callB Tryz.prog 64 = true := eqq (by kernel_rfl)   -- asof/lexer.Name
theorem cb65 : callB Tryz.prog 65 = true := eqq (by kernel_rfl)   -- asof/checker.bare
theorem cb66 : callB Tryz.prog 66 = true := eqq (by kernel_rfl)   -- slices.Collect[string]
theorem cb67 : callB Tryz.prog 67 = true := eqq (by kernel_rfl)   -- slices.Sort[[]string,string]
theorem cb68 : callB Tryz.prog 68 = true := eqq (by kernel_rfl)   -- maps.Keys[map[string]bool,string,bool]$1
theorem cb69 : callB Tryz.prog 69 = true := eqq (by kernel_rfl)   -- slices.IndexFunc[[]asof/api.Feature,asof/api.Feature]
theorem cb70 : callB Tryz.prog 70 = true := eqq (by kernel_rfl)   -- asof/catalog.find$1
theorem cb71 : callB Tryz.prog 71 = true := eqq (by kernel_rfl)   -- asof/asofref10.node
theorem cb72 : callB Tryz.prog 72 = true := eqq (by kernel_rfl)   -- asof/checker.isNumber
theorem cb73 : callB Tryz.prog 73 = true := eqq (by kernel_rfl)   -- asof/units.Check
theorem cb74 : callB Tryz.prog 74 = true := eqq (by kernel_rfl)   -- slices.ContainsFunc[[]asof/api.Factor,asof/api.Factor]
theorem cb75 : callB Tryz.prog 75 = true := eqq (by kernel_rfl)   -- asof/checker.Type$1
theorem cb76 : callB Tryz.prog 76 = true := eqq (by kernel_rfl)   -- asof/lexer.Keyword
theorem cb77 : callB Tryz.prog 77 = true := eqq (by kernel_rfl)   -- slices.AppendSeq[[]string,string]
theorem cb80 : callB Tryz.prog 80 = true := eqq (by kernel_rfl)   -- asof/asofref08.Name
theorem cb81 : callB Tryz.prog 81 = true := eqq (by kernel_rfl)   -- asof/asofref10.literal
theorem cb82 : callB Tryz.prog 82 = true := eqq (by kernel_rfl)   -- asof/asofref10.aggregate
theorem cb83 : callB Tryz.prog 83 = true := eqq (by kernel_rfl)   -- asof/asofref10.One
theorem cb84 : callB Tryz.prog 84 = true := eqq (by kernel_rfl)   -- asof/asofref10.Operators
theorem cb85 : callB Tryz.prog 85 = true := eqq (by kernel_rfl)   -- asof/units.word
theorem cb86 : callB Tryz.prog 86 = true := eqq (by kernel_rfl)   -- asof/units.outside
theorem cb87 : callB Tryz.prog 87 = true := eqq (by kernel_rfl)   -- slices.IndexFunc[[]asof/api.Factor,asof/api.Factor]
theorem cb88 : callB Tryz.prog 88 = true := eqq (by kernel_rfl)   -- strings.Contains
theorem cb100 : callB Tryz.prog 100 = true := eqq (by kernel_rfl)   -- asof/asofref08.word
theorem cb101 : callB Tryz.prog 101 = true := eqq (by kernel_rfl)   -- asof/asofref08.Keyword
theorem cb102 : callB Tryz.prog 102 = true := eqq (by kernel_rfl)   -- asof/asofref05.Check
theorem cb103 : callB Tryz.prog 103 = true := eqq (by kernel_rfl)   -- asof/asofref10.Type
theorem cb104 : callB Tryz.prog 104 = true := eqq (by kernel_rfl)   -- asof/asofref10.Aggregates
theorem cb105 : callB Tryz.prog 105 = true := eqq (by kernel_rfl)   -- asof/asofref10.window
theorem cb113 : callB Tryz.prog 113 = true := eqq (by kernel_rfl)   -- asof/asofref08.letter
theorem cb114 : callB Tryz.prog 114 = true := eqq (by kernel_rfl)   -- asof/asofref08.digit
theorem cb115 : callB Tryz.prog 115 = true := eqq (by kernel_rfl)   -- asof/asofref05.fields
theorem cb116 : callB Tryz.prog 116 = true := eqq (by kernel_rfl)   -- asof/asofref02.InRange
theorem cb117 : callB Tryz.prog 117 = true := eqq (by kernel_rfl)   -- asof/asofref05.Text
theorem cb118 : callB Tryz.prog 118 = true := eqq (by kernel_rfl)   -- asof/asofref05.Key
theorem cb119 : callB Tryz.prog 119 = true := eqq (by kernel_rfl)   -- asof/asofref10.Number
theorem cb120 : callB Tryz.prog 120 = true := eqq (by kernel_rfl)   -- asof/asofref07.Check
theorem cb123 : callB Tryz.prog 123 = true := eqq (by kernel_rfl)   -- asof/asofref05.printable
theorem cb124 : callB Tryz.prog 124 = true := eqq (by kernel_rfl)   -- asof/asofref07.Word
theorem cb125 : callB Tryz.prog 125 = true := eqq (by kernel_rfl)   -- asof/asofref07.far
end Go.Proofs.YtphkmlogjgeipaaGreatDoor.Ty
theorem Go.VL.aI {a b : Prop} (x : a) (y : b) : a ∧ b := ⟨x, y⟩
