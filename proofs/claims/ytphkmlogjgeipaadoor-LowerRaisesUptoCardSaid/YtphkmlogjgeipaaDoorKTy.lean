/- Facts on the types and functions of this translation, printed by gentypes.py. -/
import Derived.Test.YtphkmlogjgeipaaDoorProg
import Derived.Test.YtphkmlogjgeipaaDoorVE
import Derived.KernelRfl
namespace Go.Proofs.YtphkmlogjgeipaaDoor.Ty
open Go.VL Go.Proofs
theorem mixed : Tryd.prog.follows .mixedOrders = true := eqq (by kernel_rfl)
theorem sz3 : tsz Tryd.prog 3 = some 1 := eqq (by kernel_rfl)
theorem by3 : tby Tryd.prog 3 = some 8 := eqq (by kernel_rfl)
theorem ag3 : tag Tryd.prog 3 = some false := eqq (by kernel_rfl)
theorem zr3 : tzr Tryd.prog 3 = some [.int .i64 0] := eqq (by kernel_rfl)
theorem un3 : Tryd.prog.underlying 3 = some (.int .i64) := eqq (by kernel_rfl)
theorem sz4 : tsz Tryd.prog 4 = some 1 := eqq (by kernel_rfl)
theorem by4 : tby Tryd.prog 4 = some 1 := eqq (by kernel_rfl)
theorem ag4 : tag Tryd.prog 4 = some false := eqq (by kernel_rfl)
theorem zr4 : tzr Tryd.prog 4 = some [.bool false] := eqq (by kernel_rfl)
theorem un4 : Tryd.prog.underlying 4 = some .bool := eqq (by kernel_rfl)
theorem sz5 : tsz Tryd.prog 5 = some 1 := eqq (by kernel_rfl)
theorem by5 : tby Tryd.prog 5 = some 1 := eqq (by kernel_rfl)
theorem ag5 : tag Tryd.prog 5 = some false := eqq (by kernel_rfl)
theorem zr5 : tzr Tryd.prog 5 = some [.int .u8 0] := eqq (by kernel_rfl)
theorem un5 : Tryd.prog.underlying 5 = some (.int .u8) := eqq (by kernel_rfl)
theorem sz9 : tsz Tryd.prog 9 = some 1 := eqq (by kernel_rfl)
theorem by9 : tby Tryd.prog 9 = some 16 := eqq (by kernel_rfl)
theorem ag9 : tag Tryd.prog 9 = some false := eqq (by kernel_rfl)
theorem zr9 : tzr Tryd.prog 9 = some [.string ⟨#[]⟩] := eqq (by kernel_rfl)
theorem un9 : Tryd.prog.underlying 9 = some .string := eqq (by kernel_rfl)
theorem sz23 : tsz Tryd.prog 23 = some 3 := eqq (by kernel_rfl)
theorem by23 : tby Tryd.prog 23 = some 32 := eqq (by kernel_rfl)
theorem ag23 : tag Tryd.prog 23 = some true := eqq (by kernel_rfl)
theorem zr23 : tzr Tryd.prog 23 = some [.int .i64 0, .int .i64 0, .string ⟨#[]⟩] := eqq (by kernel_rfl)
theorem fl23_0 : fld Tryd.prog 23 0 = some (0, 3) := eqq (by kernel_rfl)
theorem pl23_0 : placeOf Tryd.prog 23 0 = some (0, 1) := eqq (by kernel_rfl)
theorem fl23_1 : fld Tryd.prog 23 1 = some (1, 3) := eqq (by kernel_rfl)
theorem pl23_1 : placeOf Tryd.prog 23 1 = some (1, 1) := eqq (by kernel_rfl)
theorem fl23_2 : fld Tryd.prog 23 2 = some (2, 9) := eqq (by kernel_rfl)
theorem pl23_2 : placeOf Tryd.prog 23 2 = some (2, 1) := eqq (by kernel_rfl)
theorem sz24 : tsz Tryd.prog 24 = some 1 := eqq (by kernel_rfl)
theorem by24 : tby Tryd.prog 24 = some 24 := eqq (by kernel_rfl)
theorem ag24 : tag Tryd.prog 24 = some false := eqq (by kernel_rfl)
theorem zr24 : tzr Tryd.prog 24 = some [.slice none 0 0] := eqq (by kernel_rfl)
theorem un24 : Tryd.prog.underlying 24 = some (.slice 105) := eqq (by kernel_rfl)
theorem sz26 : tsz Tryd.prog 26 = some 2 := eqq (by kernel_rfl)
theorem by26 : tby Tryd.prog 26 = some 16 := eqq (by kernel_rfl)
theorem ag26 : tag Tryd.prog 26 = some true := eqq (by kernel_rfl)
theorem zr26 : tzr Tryd.prog 26 = some [.int .i64 0, .int .i64 0] := eqq (by kernel_rfl)
theorem fl26_0 : fld Tryd.prog 26 0 = some (0, 3) := eqq (by kernel_rfl)
theorem pl26_0 : placeOf Tryd.prog 26 0 = some (0, 1) := eqq (by kernel_rfl)
theorem fl26_1 : fld Tryd.prog 26 1 = some (1, 3) := eqq (by kernel_rfl)
theorem pl26_1 : placeOf Tryd.prog 26 1 = some (1, 1) := eqq (by kernel_rfl)
theorem sz27 : tsz Tryd.prog 27 = some 1 := eqq (by kernel_rfl)
theorem by27 : tby Tryd.prog 27 = some 24 := eqq (by kernel_rfl)
theorem ag27 : tag Tryd.prog 27 = some false := eqq (by kernel_rfl)
theorem zr27 : tzr Tryd.prog 27 = some [.slice none 0 0] := eqq (by kernel_rfl)
theorem un27 : Tryd.prog.underlying 27 = some (.slice 29) := eqq (by kernel_rfl)
theorem sz29 : tsz Tryd.prog 29 = some 12 := eqq (by kernel_rfl)
theorem by29 : tby Tryd.prog 29 = some 160 := eqq (by kernel_rfl)
theorem ag29 : tag Tryd.prog 29 = some true := eqq (by kernel_rfl)
theorem zr29 : tzr Tryd.prog 29 = some [.int .i64 0, .string ⟨#[]⟩, .string ⟨#[]⟩, .string ⟨#[]⟩, .int .i64 0, .int .i64 0, .string ⟨#[]⟩, .slice none 0 0, .int .i64 0, .int .i64 0, .int .i64 0, .slice none 0 0] := eqq (by kernel_rfl)
theorem fl29_0 : fld Tryd.prog 29 0 = some (0, 3) := eqq (by kernel_rfl)
theorem pl29_0 : placeOf Tryd.prog 29 0 = some (0, 1) := eqq (by kernel_rfl)
theorem fl29_1 : fld Tryd.prog 29 1 = some (1, 9) := eqq (by kernel_rfl)
theorem pl29_1 : placeOf Tryd.prog 29 1 = some (1, 1) := eqq (by kernel_rfl)
theorem fl29_2 : fld Tryd.prog 29 2 = some (2, 9) := eqq (by kernel_rfl)
theorem pl29_2 : placeOf Tryd.prog 29 2 = some (2, 1) := eqq (by kernel_rfl)
theorem fl29_3 : fld Tryd.prog 29 3 = some (3, 9) := eqq (by kernel_rfl)
theorem pl29_3 : placeOf Tryd.prog 29 3 = some (3, 1) := eqq (by kernel_rfl)
theorem fl29_4 : fld Tryd.prog 29 4 = some (4, 23) := eqq (by kernel_rfl)
theorem pl29_4 : placeOf Tryd.prog 29 4 = some (4, 3) := eqq (by kernel_rfl)
theorem fl29_5 : fld Tryd.prog 29 5 = some (7, 24) := eqq (by kernel_rfl)
theorem pl29_5 : placeOf Tryd.prog 29 5 = some (7, 1) := eqq (by kernel_rfl)
theorem fl29_6 : fld Tryd.prog 29 6 = some (8, 3) := eqq (by kernel_rfl)
theorem pl29_6 : placeOf Tryd.prog 29 6 = some (8, 1) := eqq (by kernel_rfl)
theorem fl29_7 : fld Tryd.prog 29 7 = some (9, 26) := eqq (by kernel_rfl)
theorem pl29_7 : placeOf Tryd.prog 29 7 = some (9, 2) := eqq (by kernel_rfl)
theorem fl29_8 : fld Tryd.prog 29 8 = some (11, 27) := eqq (by kernel_rfl)
theorem pl29_8 : placeOf Tryd.prog 29 8 = some (11, 1) := eqq (by kernel_rfl)
theorem sz31 : tsz Tryd.prog 31 = some 1 := eqq (by kernel_rfl)
theorem by31 : tby Tryd.prog 31 = some 24 := eqq (by kernel_rfl)
theorem ag31 : tag Tryd.prog 31 = some false := eqq (by kernel_rfl)
theorem zr31 : tzr Tryd.prog 31 = some [.slice none 0 0] := eqq (by kernel_rfl)
theorem un31 : Tryd.prog.underlying 31 = some (.slice 43) := eqq (by kernel_rfl)
theorem sz33 : tsz Tryd.prog 33 = some 1 := eqq (by kernel_rfl)
theorem by33 : tby Tryd.prog 33 = some 24 := eqq (by kernel_rfl)
theorem ag33 : tag Tryd.prog 33 = some true := eqq (by kernel_rfl)
theorem zr33 : tzr Tryd.prog 33 = some [.slice none 0 0] := eqq (by kernel_rfl)
theorem fl33_0 : fld Tryd.prog 33 0 = some (0, 31) := eqq (by kernel_rfl)
theorem pl33_0 : placeOf Tryd.prog 33 0 = some (0, 1) := eqq (by kernel_rfl)
theorem sz34 : tsz Tryd.prog 34 = some 1 := eqq (by kernel_rfl)
theorem by34 : tby Tryd.prog 34 = some 8 := eqq (by kernel_rfl)
theorem ag34 : tag Tryd.prog 34 = some false := eqq (by kernel_rfl)
theorem zr34 : tzr Tryd.prog 34 = some [.int .i64 0] := eqq (by kernel_rfl)
theorem un34 : Tryd.prog.underlying 34 = some (.int .i64) := eqq (by kernel_rfl)
theorem sz35 : tsz Tryd.prog 35 = some 1 := eqq (by kernel_rfl)
theorem by35 : tby Tryd.prog 35 = some 0 := eqq (by kernel_rfl)
theorem ag35 : tag Tryd.prog 35 = some false := eqq (by kernel_rfl)
theorem sz37 : tsz Tryd.prog 37 = some 1 := eqq (by kernel_rfl)
theorem by37 : tby Tryd.prog 37 = some 0 := eqq (by kernel_rfl)
theorem ag37 : tag Tryd.prog 37 = some false := eqq (by kernel_rfl)
theorem sz40 : tsz Tryd.prog 40 = some 1 := eqq (by kernel_rfl)
theorem by40 : tby Tryd.prog 40 = some 8 := eqq (by kernel_rfl)
theorem ag40 : tag Tryd.prog 40 = some false := eqq (by kernel_rfl)
theorem zr40 : tzr Tryd.prog 40 = some [.nilFunc] := eqq (by kernel_rfl)
theorem sz41 : tsz Tryd.prog 41 = some 1 := eqq (by kernel_rfl)
theorem by41 : tby Tryd.prog 41 = some 24 := eqq (by kernel_rfl)
theorem ag41 : tag Tryd.prog 41 = some false := eqq (by kernel_rfl)
theorem zr41 : tzr Tryd.prog 41 = some [.slice none 0 0] := eqq (by kernel_rfl)
theorem un41 : Tryd.prog.underlying 41 = some (.slice 3) := eqq (by kernel_rfl)
theorem sz43 : tsz Tryd.prog 43 = some 23 := eqq (by kernel_rfl)
theorem by43 : tby Tryd.prog 43 = some 296 := eqq (by kernel_rfl)
theorem ag43 : tag Tryd.prog 43 = some true := eqq (by kernel_rfl)
theorem zr43 : tzr Tryd.prog 43 = some [.int .i64 0, .string ⟨#[]⟩, .int .i64 0, .string ⟨#[]⟩, .string ⟨#[]⟩, .string ⟨#[]⟩, .int .i64 0, .int .i64 0, .string ⟨#[]⟩, .slice none 0 0, .int .i64 0, .int .i64 0, .int .i64 0, .slice none 0 0, .string ⟨#[]⟩, .int .i64 0, .int .i64 0, .int .i64 0, .int .i64 0, .int .i64 0, .string ⟨#[]⟩, .string ⟨#[]⟩, .slice none 0 0] := eqq (by kernel_rfl)
theorem fl43_0 : fld Tryd.prog 43 0 = some (0, 3) := eqq (by kernel_rfl)
theorem pl43_0 : placeOf Tryd.prog 43 0 = some (0, 1) := eqq (by kernel_rfl)
theorem fl43_1 : fld Tryd.prog 43 1 = some (1, 9) := eqq (by kernel_rfl)
theorem pl43_1 : placeOf Tryd.prog 43 1 = some (1, 1) := eqq (by kernel_rfl)
theorem fl43_2 : fld Tryd.prog 43 2 = some (2, 29) := eqq (by kernel_rfl)
theorem pl43_2 : placeOf Tryd.prog 43 2 = some (2, 12) := eqq (by kernel_rfl)
theorem fl43_3 : fld Tryd.prog 43 3 = some (14, 9) := eqq (by kernel_rfl)
theorem pl43_3 : placeOf Tryd.prog 43 3 = some (14, 1) := eqq (by kernel_rfl)
theorem fl43_4 : fld Tryd.prog 43 4 = some (15, 3) := eqq (by kernel_rfl)
theorem pl43_4 : placeOf Tryd.prog 43 4 = some (15, 1) := eqq (by kernel_rfl)
theorem fl43_5 : fld Tryd.prog 43 5 = some (16, 26) := eqq (by kernel_rfl)
theorem pl43_5 : placeOf Tryd.prog 43 5 = some (16, 2) := eqq (by kernel_rfl)
theorem fl43_6 : fld Tryd.prog 43 6 = some (18, 23) := eqq (by kernel_rfl)
theorem pl43_6 : placeOf Tryd.prog 43 6 = some (18, 3) := eqq (by kernel_rfl)
theorem fl43_7 : fld Tryd.prog 43 7 = some (21, 9) := eqq (by kernel_rfl)
theorem pl43_7 : placeOf Tryd.prog 43 7 = some (21, 1) := eqq (by kernel_rfl)
theorem fl43_8 : fld Tryd.prog 43 8 = some (22, 41) := eqq (by kernel_rfl)
theorem pl43_8 : placeOf Tryd.prog 43 8 = some (22, 1) := eqq (by kernel_rfl)
theorem sz47 : tsz Tryd.prog 47 = some 1 := eqq (by kernel_rfl)
theorem by47 : tby Tryd.prog 47 = some 8 := eqq (by kernel_rfl)
theorem ag47 : tag Tryd.prog 47 = some false := eqq (by kernel_rfl)
theorem zr47 : tzr Tryd.prog 47 = some [.nilFunc] := eqq (by kernel_rfl)
theorem sz48 : tsz Tryd.prog 48 = some 1 := eqq (by kernel_rfl)
theorem by48 : tby Tryd.prog 48 = some 0 := eqq (by kernel_rfl)
theorem ag48 : tag Tryd.prog 48 = some false := eqq (by kernel_rfl)
theorem sz56 : tsz Tryd.prog 56 = some 3 := eqq (by kernel_rfl)
theorem by56 : tby Tryd.prog 56 = some 48 := eqq (by kernel_rfl)
theorem ag56 : tag Tryd.prog 56 = some true := eqq (by kernel_rfl)
theorem zr56 : tzr Tryd.prog 56 = some [.int .i64 0, .slice none 0 0, .string ⟨#[]⟩] := eqq (by kernel_rfl)
theorem fl56_0 : fld Tryd.prog 56 0 = some (0, 3) := eqq (by kernel_rfl)
theorem pl56_0 : placeOf Tryd.prog 56 0 = some (0, 1) := eqq (by kernel_rfl)
theorem fl56_1 : fld Tryd.prog 56 1 = some (1, 24) := eqq (by kernel_rfl)
theorem pl56_1 : placeOf Tryd.prog 56 1 = some (1, 1) := eqq (by kernel_rfl)
theorem fl56_2 : fld Tryd.prog 56 2 = some (2, 9) := eqq (by kernel_rfl)
theorem pl56_2 : placeOf Tryd.prog 56 2 = some (2, 1) := eqq (by kernel_rfl)
theorem sz58 : tsz Tryd.prog 58 = some 18 := eqq (by kernel_rfl)
theorem by58 : tby Tryd.prog 58 = some 248 := eqq (by kernel_rfl)
theorem ag58 : tag Tryd.prog 58 = some true := eqq (by kernel_rfl)
theorem zr58 : tzr Tryd.prog 58 = some [.string ⟨#[]⟩, .string ⟨#[]⟩, .int .i64 0, .slice none 0 0, .string ⟨#[]⟩, .int .i64 0, .string ⟨#[]⟩, .string ⟨#[]⟩, .string ⟨#[]⟩, .int .i64 0, .int .i64 0, .string ⟨#[]⟩, .slice none 0 0, .int .i64 0, .int .i64 0, .int .i64 0, .slice none 0 0, .int .i64 0] := eqq (by kernel_rfl)
theorem fl58_0 : fld Tryd.prog 58 0 = some (0, 9) := eqq (by kernel_rfl)
theorem pl58_0 : placeOf Tryd.prog 58 0 = some (0, 1) := eqq (by kernel_rfl)
theorem fl58_1 : fld Tryd.prog 58 1 = some (1, 9) := eqq (by kernel_rfl)
theorem pl58_1 : placeOf Tryd.prog 58 1 = some (1, 1) := eqq (by kernel_rfl)
theorem fl58_2 : fld Tryd.prog 58 2 = some (2, 56) := eqq (by kernel_rfl)
theorem pl58_2 : placeOf Tryd.prog 58 2 = some (2, 3) := eqq (by kernel_rfl)
theorem fl58_3 : fld Tryd.prog 58 3 = some (5, 29) := eqq (by kernel_rfl)
theorem pl58_3 : placeOf Tryd.prog 58 3 = some (5, 12) := eqq (by kernel_rfl)
theorem fl58_4 : fld Tryd.prog 58 4 = some (17, 3) := eqq (by kernel_rfl)
theorem pl58_4 : placeOf Tryd.prog 58 4 = some (17, 1) := eqq (by kernel_rfl)
theorem sz60 : tsz Tryd.prog 60 = some 4 := eqq (by kernel_rfl)
theorem by60 : tby Tryd.prog 60 = some 64 := eqq (by kernel_rfl)
theorem ag60 : tag Tryd.prog 60 = some true := eqq (by kernel_rfl)
theorem zr60 : tzr Tryd.prog 60 = some [.string ⟨#[]⟩, .int .i64 0, .slice none 0 0, .string ⟨#[]⟩] := eqq (by kernel_rfl)
theorem fl60_0 : fld Tryd.prog 60 0 = some (0, 9) := eqq (by kernel_rfl)
theorem pl60_0 : placeOf Tryd.prog 60 0 = some (0, 1) := eqq (by kernel_rfl)
theorem fl60_1 : fld Tryd.prog 60 1 = some (1, 56) := eqq (by kernel_rfl)
theorem pl60_1 : placeOf Tryd.prog 60 1 = some (1, 3) := eqq (by kernel_rfl)
theorem sz61 : tsz Tryd.prog 61 = some 1 := eqq (by kernel_rfl)
theorem by61 : tby Tryd.prog 61 = some 24 := eqq (by kernel_rfl)
theorem ag61 : tag Tryd.prog 61 = some false := eqq (by kernel_rfl)
theorem zr61 : tzr Tryd.prog 61 = some [.slice none 0 0] := eqq (by kernel_rfl)
theorem un61 : Tryd.prog.underlying 61 = some (.slice 60) := eqq (by kernel_rfl)
theorem sz63 : tsz Tryd.prog 63 = some 4 := eqq (by kernel_rfl)
theorem by63 : tby Tryd.prog 63 = some 64 := eqq (by kernel_rfl)
theorem ag63 : tag Tryd.prog 63 = some true := eqq (by kernel_rfl)
theorem zr63 : tzr Tryd.prog 63 = some [.string ⟨#[]⟩, .string ⟨#[]⟩, .slice none 0 0, .int .i64 0] := eqq (by kernel_rfl)
theorem fl63_0 : fld Tryd.prog 63 0 = some (0, 9) := eqq (by kernel_rfl)
theorem pl63_0 : placeOf Tryd.prog 63 0 = some (0, 1) := eqq (by kernel_rfl)
theorem fl63_1 : fld Tryd.prog 63 1 = some (1, 9) := eqq (by kernel_rfl)
theorem pl63_1 : placeOf Tryd.prog 63 1 = some (1, 1) := eqq (by kernel_rfl)
theorem fl63_2 : fld Tryd.prog 63 2 = some (2, 61) := eqq (by kernel_rfl)
theorem pl63_2 : placeOf Tryd.prog 63 2 = some (2, 1) := eqq (by kernel_rfl)
theorem fl63_3 : fld Tryd.prog 63 3 = some (3, 3) := eqq (by kernel_rfl)
theorem pl63_3 : placeOf Tryd.prog 63 3 = some (3, 1) := eqq (by kernel_rfl)
theorem sz64 : tsz Tryd.prog 64 = some 1 := eqq (by kernel_rfl)
theorem by64 : tby Tryd.prog 64 = some 24 := eqq (by kernel_rfl)
theorem ag64 : tag Tryd.prog 64 = some false := eqq (by kernel_rfl)
theorem zr64 : tzr Tryd.prog 64 = some [.slice none 0 0] := eqq (by kernel_rfl)
theorem un64 : Tryd.prog.underlying 64 = some (.slice 63) := eqq (by kernel_rfl)
theorem sz65 : tsz Tryd.prog 65 = some 1 := eqq (by kernel_rfl)
theorem by65 : tby Tryd.prog 65 = some 24 := eqq (by kernel_rfl)
theorem ag65 : tag Tryd.prog 65 = some false := eqq (by kernel_rfl)
theorem zr65 : tzr Tryd.prog 65 = some [.slice none 0 0] := eqq (by kernel_rfl)
theorem un65 : Tryd.prog.underlying 65 = some (.slice 58) := eqq (by kernel_rfl)
theorem sz67 : tsz Tryd.prog 67 = some 4 := eqq (by kernel_rfl)
theorem by67 : tby Tryd.prog 67 = some 96 := eqq (by kernel_rfl)
theorem ag67 : tag Tryd.prog 67 = some true := eqq (by kernel_rfl)
theorem zr67 : tzr Tryd.prog 67 = some [.slice none 0 0, .slice none 0 0, .slice none 0 0, .slice none 0 0] := eqq (by kernel_rfl)
theorem fl67_0 : fld Tryd.prog 67 0 = some (0, 64) := eqq (by kernel_rfl)
theorem pl67_0 : placeOf Tryd.prog 67 0 = some (0, 1) := eqq (by kernel_rfl)
theorem fl67_1 : fld Tryd.prog 67 1 = some (1, 65) := eqq (by kernel_rfl)
theorem pl67_1 : placeOf Tryd.prog 67 1 = some (1, 1) := eqq (by kernel_rfl)
theorem fl67_2 : fld Tryd.prog 67 2 = some (2, 65) := eqq (by kernel_rfl)
theorem pl67_2 : placeOf Tryd.prog 67 2 = some (2, 1) := eqq (by kernel_rfl)
theorem fl67_3 : fld Tryd.prog 67 3 = some (3, 65) := eqq (by kernel_rfl)
theorem pl67_3 : placeOf Tryd.prog 67 3 = some (3, 1) := eqq (by kernel_rfl)
theorem sz71 : tsz Tryd.prog 71 = some 1 := eqq (by kernel_rfl)
theorem by71 : tby Tryd.prog 71 = some 8 := eqq (by kernel_rfl)
theorem ag71 : tag Tryd.prog 71 = some false := eqq (by kernel_rfl)
theorem zr71 : tzr Tryd.prog 71 = some [.pointer none] := eqq (by kernel_rfl)
theorem un71 : Tryd.prog.underlying 71 = some (.pointer 73) := eqq (by kernel_rfl)
theorem sz73 : tsz Tryd.prog 73 = some 2 := eqq (by kernel_rfl)
theorem by73 : tby Tryd.prog 73 = some 32 := eqq (by kernel_rfl)
theorem ag73 : tag Tryd.prog 73 = some true := eqq (by kernel_rfl)
theorem zr73 : tzr Tryd.prog 73 = some [.slice none 0 0, .nilFunc] := eqq (by kernel_rfl)
theorem fl73_0 : fld Tryd.prog 73 0 = some (0, 31) := eqq (by kernel_rfl)
theorem pl73_0 : placeOf Tryd.prog 73 0 = some (0, 1) := eqq (by kernel_rfl)
theorem fl73_1 : fld Tryd.prog 73 1 = some (1, 40) := eqq (by kernel_rfl)
theorem pl73_1 : placeOf Tryd.prog 73 1 = some (1, 1) := eqq (by kernel_rfl)
theorem sz74 : tsz Tryd.prog 74 = some 1 := eqq (by kernel_rfl)
theorem by74 : tby Tryd.prog 74 = some 8 := eqq (by kernel_rfl)
theorem ag74 : tag Tryd.prog 74 = some false := eqq (by kernel_rfl)
theorem zr74 : tzr Tryd.prog 74 = some [.nilFunc] := eqq (by kernel_rfl)
theorem sz77 : tsz Tryd.prog 77 = some 1 := eqq (by kernel_rfl)
theorem by77 : tby Tryd.prog 77 = some 0 := eqq (by kernel_rfl)
theorem ag77 : tag Tryd.prog 77 = some false := eqq (by kernel_rfl)
theorem sz82 : tsz Tryd.prog 82 = some 1 := eqq (by kernel_rfl)
theorem by82 : tby Tryd.prog 82 = some 24 := eqq (by kernel_rfl)
theorem ag82 : tag Tryd.prog 82 = some false := eqq (by kernel_rfl)
theorem zr82 : tzr Tryd.prog 82 = some [.slice none 0 0] := eqq (by kernel_rfl)
theorem un82 : Tryd.prog.underlying 82 = some (.slice 9) := eqq (by kernel_rfl)
theorem sz83 : tsz Tryd.prog 83 = some 1 := eqq (by kernel_rfl)
theorem by83 : tby Tryd.prog 83 = some 8 := eqq (by kernel_rfl)
theorem ag83 : tag Tryd.prog 83 = some false := eqq (by kernel_rfl)
theorem zr83 : tzr Tryd.prog 83 = some [.nilFunc] := eqq (by kernel_rfl)
theorem sz84 : tsz Tryd.prog 84 = some 1 := eqq (by kernel_rfl)
theorem by84 : tby Tryd.prog 84 = some 0 := eqq (by kernel_rfl)
theorem ag84 : tag Tryd.prog 84 = some false := eqq (by kernel_rfl)
theorem sz86 : tsz Tryd.prog 86 = some 1 := eqq (by kernel_rfl)
theorem by86 : tby Tryd.prog 86 = some 0 := eqq (by kernel_rfl)
theorem ag86 : tag Tryd.prog 86 = some false := eqq (by kernel_rfl)
theorem sz88 : tsz Tryd.prog 88 = some 1 := eqq (by kernel_rfl)
theorem by88 : tby Tryd.prog 88 = some 24 := eqq (by kernel_rfl)
theorem ag88 : tag Tryd.prog 88 = some false := eqq (by kernel_rfl)
theorem zr88 : tzr Tryd.prog 88 = some [.slice none 0 0] := eqq (by kernel_rfl)
theorem un88 : Tryd.prog.underlying 88 = some (.slice 5) := eqq (by kernel_rfl)
theorem sz91 : tsz Tryd.prog 91 = some 1 := eqq (by kernel_rfl)
theorem by91 : tby Tryd.prog 91 = some 8 := eqq (by kernel_rfl)
theorem ag91 : tag Tryd.prog 91 = some false := eqq (by kernel_rfl)
theorem zr91 : tzr Tryd.prog 91 = some [.nilFunc] := eqq (by kernel_rfl)
theorem sz94 : tsz Tryd.prog 94 = some 1 := eqq (by kernel_rfl)
theorem by94 : tby Tryd.prog 94 = some 8 := eqq (by kernel_rfl)
theorem ag94 : tag Tryd.prog 94 = some false := eqq (by kernel_rfl)
theorem zr94 : tzr Tryd.prog 94 = some [.map none] := eqq (by kernel_rfl)
theorem un94 : Tryd.prog.underlying 94 = some (.map 9 4) := eqq (by kernel_rfl)
theorem sz97 : tsz Tryd.prog 97 = some 1 := eqq (by kernel_rfl)
theorem by97 : tby Tryd.prog 97 = some 8 := eqq (by kernel_rfl)
theorem ag97 : tag Tryd.prog 97 = some false := eqq (by kernel_rfl)
theorem zr97 : tzr Tryd.prog 97 = some [.nilFunc] := eqq (by kernel_rfl)
theorem sz98 : tsz Tryd.prog 98 = some 1 := eqq (by kernel_rfl)
theorem by98 : tby Tryd.prog 98 = some 8 := eqq (by kernel_rfl)
theorem ag98 : tag Tryd.prog 98 = some false := eqq (by kernel_rfl)
theorem zr98 : tzr Tryd.prog 98 = some [.nilFunc] := eqq (by kernel_rfl)
theorem sz103 : tsz Tryd.prog 103 = some 1 := eqq (by kernel_rfl)
theorem by103 : tby Tryd.prog 103 = some 8 := eqq (by kernel_rfl)
theorem ag103 : tag Tryd.prog 103 = some false := eqq (by kernel_rfl)
theorem zr103 : tzr Tryd.prog 103 = some [.nilFunc] := eqq (by kernel_rfl)
theorem sz105 : tsz Tryd.prog 105 = some 2 := eqq (by kernel_rfl)
theorem by105 : tby Tryd.prog 105 = some 24 := eqq (by kernel_rfl)
theorem ag105 : tag Tryd.prog 105 = some true := eqq (by kernel_rfl)
theorem zr105 : tzr Tryd.prog 105 = some [.string ⟨#[]⟩, .int .i64 0] := eqq (by kernel_rfl)
theorem fl105_0 : fld Tryd.prog 105 0 = some (0, 9) := eqq (by kernel_rfl)
theorem pl105_0 : placeOf Tryd.prog 105 0 = some (0, 1) := eqq (by kernel_rfl)
theorem fl105_1 : fld Tryd.prog 105 1 = some (1, 3) := eqq (by kernel_rfl)
theorem pl105_1 : placeOf Tryd.prog 105 1 = some (1, 1) := eqq (by kernel_rfl)
theorem sz109 : tsz Tryd.prog 109 = some 1 := eqq (by kernel_rfl)
theorem by109 : tby Tryd.prog 109 = some 8 := eqq (by kernel_rfl)
theorem ag109 : tag Tryd.prog 109 = some false := eqq (by kernel_rfl)
theorem zr109 : tzr Tryd.prog 109 = some [.nilFunc] := eqq (by kernel_rfl)
theorem sz113 : tsz Tryd.prog 113 = some 1 := eqq (by kernel_rfl)
theorem by113 : tby Tryd.prog 113 = some 8 := eqq (by kernel_rfl)
theorem ag113 : tag Tryd.prog 113 = some false := eqq (by kernel_rfl)
theorem zr113 : tzr Tryd.prog 113 = some [.nilFunc] := eqq (by kernel_rfl)
theorem eq23 : eqT Tryd.prog 23 = some [.i .i64, .i .i64, .s] := eqq (by kernel_rfl)
theorem eq26 : eqT Tryd.prog 26 = some [.i .i64, .i .i64] := eqq (by kernel_rfl)
theorem eq105 : eqT Tryd.prog 105 = some [.s, .i .i64] := eqq (by kernel_rfl)
theorem mp94 : mapT Tryd.prog 94 = some (9, ([.s], false), .lit (.bool false)) := eqq (by kernel_rfl)
theorem cb6 : callB Tryd.prog 6 = true := eqq (by kernel_rfl)   -- asof/asoflaw19.example
theorem cb7 : callB Tryd.prog 7 = true := eqq (by kernel_rfl)   -- asof/lower.Graph
theorem cb8 : callB Tryd.prog 8 = true := eqq (by kernel_rfl)   -- asof/asoflaw19.count
theorem cb9 : callB Tryd.prog 9 = true := eqq (by kernel_rfl)   -- asof/asofref19.SameNode
theorem cb10 : callB Tryd.prog 10 = true := eqq (by kernel_rfl)   -- asof/asoflaw19.binary
theorem cb11 : callB Tryd.prog 11 = true := eqq (by kernel_rfl)   -- asof/asofref19.Same
theorem cb12 : callB Tryd.prog 12 = true := eqq (by kernel_rfl)   -- asof/lower.Raise
theorem cb13 : callB Tryd.prog 13 = true := eqq (by kernel_rfl)   -- asof/lower.Check
theorem cb14 : callB Tryd.prog 14 = true := eqq (by kernel_rfl)   -- asof/asofref10.SameExpr
theorem cb15 : callB Tryd.prog 15 = true := eqq (by kernel_rfl)   -- asof/asoflaw19.small
theorem cb16 : callB Tryd.prog 16 = true := eqq (by kernel_rfl)   -- asof/asoflaw19.over
theorem cb17 : callB Tryd.prog 17 = true := eqq (by kernel_rfl)   -- asof/asofref10.True
theorem cb18 : callB Tryd.prog 18 = true := eqq (by kernel_rfl)   -- asof/lower.Class
theorem cb19 : callB Tryd.prog 19 = true := eqq (by kernel_rfl)   -- asof/asoflaw19.kinds
theorem cb20 : callB Tryd.prog 20 = true := eqq (by kernel_rfl)   -- asof/checker.Shape
theorem cb21 : callB Tryd.prog 21 = true := eqq (by kernel_rfl)   -- asof/lower.sameNode
theorem cb22 : callB Tryd.prog 22 = true := eqq (by kernel_rfl)   -- asof/lower.Graph$1
theorem cb23 : callB Tryd.prog 23 = true := eqq (by kernel_rfl)   -- (*asof/lower.shared[asof/api.Node]).put
theorem cb24 : callB Tryd.prog 24 = true := eqq (by kernel_rfl)   -- asof/asofref19.sameInts
theorem cb25 : callB Tryd.prog 25 = true := eqq (by kernel_rfl)   -- asof/lower.node
theorem cb26 : callB Tryd.prog 26 = true := eqq (by kernel_rfl)   -- slices.EqualFunc[[]asof/api.Node,[]asof/api.Node,asof/api.Node,asof/api.Node]
theorem cb27 : callB Tryd.prog 27 = true := eqq (by kernel_rfl)   -- asof/asofref10.flat
theorem cb28 : callB Tryd.prog 28 = true := eqq (by kernel_rfl)   -- asof/asofref10.Size
theorem cb29 : callB Tryd.prog 29 = true := eqq (by kernel_rfl)   -- asof/lower.Class$1
theorem cb30 : callB Tryd.prog 30 = true := eqq (by kernel_rfl)   -- asof/lower.each
theorem cb31 : callB Tryd.prog 31 = true := eqq (by kernel_rfl)   -- asof/lower.Class$1$1
theorem cb32 : callB Tryd.prog 32 = true := eqq (by kernel_rfl)   -- slices.Contains[[]string,string]
theorem cb33 : callB Tryd.prog 33 = true := eqq (by kernel_rfl)   -- asof/catalog.Uses
theorem cb34 : callB Tryd.prog 34 = true := eqq (by kernel_rfl)   -- asof/catalog.Feature
theorem cb35 : callB Tryd.prog 35 = true := eqq (by kernel_rfl)   -- asof/checker.Size
theorem cb36 : callB Tryd.prog 36 = true := eqq (by kernel_rfl)   -- asof/checker.Depth
theorem cb37 : callB Tryd.prog 37 = true := eqq (by kernel_rfl)   -- asof/checker.proper
theorem cb38 : callB Tryd.prog 38 = true := eqq (by kernel_rfl)   -- slices.Equal[[]int,int]
theorem cb39 : callB Tryd.prog 39 = true := eqq (by kernel_rfl)   -- asof/lower.sameExpr
theorem cb40 : callB Tryd.prog 40 = true := eqq (by kernel_rfl)   -- slices.IndexFunc[[]asof/api.Node,asof/api.Node]
theorem cb41 : callB Tryd.prog 41 = true := eqq (by kernel_rfl)   -- (*asof/lower.shared[asof/api.Node]).put$1
theorem cb42 : callB Tryd.prog 42 = true := eqq (by kernel_rfl)   -- asof/asofref07.Same
theorem cb43 : callB Tryd.prog 43 = true := eqq (by kernel_rfl)   -- slices.Index[[]string,string]
theorem cb44 : callB Tryd.prog 44 = true := eqq (by kernel_rfl)   -- asof/catalog.direct
theorem cb45 : callB Tryd.prog 45 = true := eqq (by kernel_rfl)   -- slices.Sorted[string]
theorem cb46 : callB Tryd.prog 46 = true := eqq (by kernel_rfl)   -- maps.Keys[map[string]bool,string,bool]
theorem cb47 : callB Tryd.prog 47 = true := eqq (by kernel_rfl)   -- asof/catalog.find
theorem cb48 : callB Tryd.prog 48 = true := eqq (by kernel_rfl)   -- asof/values.Check
theorem cb49 : callB Tryd.prog 49 = true := eqq (by kernel_rfl)   -- asof/checker.Type
theorem cb50 : callB Tryd.prog 50 = true := eqq (by kernel_rfl)   -- asof/lexer.Name
theorem cb51 : callB Tryd.prog 51 = true := eqq (by kernel_rfl)   -- asof/checker.bare
theorem cb52 : callB Tryd.prog 52 = true := eqq (by kernel_rfl)   -- slices.Equal[[]asof/api.Factor,asof/api.Factor]
theorem cb53 : callB Tryd.prog 53 = true := eqq (by kernel_rfl)   -- slices.EqualFunc[[]asof/api.Expr,[]asof/api.Expr,asof/api.Expr,asof/api.Expr]
theorem cb54 : callB Tryd.prog 54 = true := eqq (by kernel_rfl)   -- slices.Collect[string]
theorem cb55 : callB Tryd.prog 55 = true := eqq (by kernel_rfl)   -- slices.Sort[[]string,string]
theorem cb56 : callB Tryd.prog 56 = true := eqq (by kernel_rfl)   -- maps.Keys[map[string]bool,string,bool]$1
theorem cb57 : callB Tryd.prog 57 = true := eqq (by kernel_rfl)   -- slices.IndexFunc[[]asof/api.Feature,asof/api.Feature]
theorem cb58 : callB Tryd.prog 58 = true := eqq (by kernel_rfl)   -- asof/catalog.find$1
theorem cb59 : callB Tryd.prog 59 = true := eqq (by kernel_rfl)   -- asof/checker.isNumber
theorem cb60 : callB Tryd.prog 60 = true := eqq (by kernel_rfl)   -- asof/units.Check
theorem cb61 : callB Tryd.prog 61 = true := eqq (by kernel_rfl)   -- slices.ContainsFunc[[]asof/api.Factor,asof/api.Factor]
theorem cb62 : callB Tryd.prog 62 = true := eqq (by kernel_rfl)   -- asof/checker.Type$1
theorem cb63 : callB Tryd.prog 63 = true := eqq (by kernel_rfl)   -- asof/lexer.Keyword
theorem cb64 : callB Tryd.prog 64 = true := eqq (by kernel_rfl)   -- slices.AppendSeq[[]string,string]
theorem cb67 : callB Tryd.prog 67 = true := eqq (by kernel_rfl)   -- asof/units.word
theorem cb68 : callB Tryd.prog 68 = true := eqq (by kernel_rfl)   -- asof/units.outside
theorem cb69 : callB Tryd.prog 69 = true := eqq (by kernel_rfl)   -- slices.IndexFunc[[]asof/api.Factor,asof/api.Factor]
theorem cb70 : callB Tryd.prog 70 = true := eqq (by kernel_rfl)   -- strings.Contains
end Go.Proofs.YtphkmlogjgeipaaDoor.Ty
