/- Facts on the types and functions of this translation, printed by gentypes.py. -/
import Derived.Test.YtopfanlkbepemaaProg
import Derived.Test.YtopfanlkbepemaaVE
import Derived.KernelRfl
namespace Go.Proofs.Ytopfanlkbepemaa.Ty
open Go.VL Go.Proofs
theorem mixed : Try.prog.follows .mixedOrders = true := eqq (by kernel_rfl)
theorem sz3 : tsz Try.prog 3 = some 1 := eqq (by kernel_rfl)
theorem by3 : tby Try.prog 3 = some 8 := eqq (by kernel_rfl)
theorem ag3 : tag Try.prog 3 = some false := eqq (by kernel_rfl)
theorem zr3 : tzr Try.prog 3 = some [.int .i64 0] := eqq (by kernel_rfl)
theorem un3 : Try.prog.underlying 3 = some (.int .i64) := eqq (by kernel_rfl)
theorem sz4 : tsz Try.prog 4 = some 1 := eqq (by kernel_rfl)
theorem by4 : tby Try.prog 4 = some 1 := eqq (by kernel_rfl)
theorem ag4 : tag Try.prog 4 = some false := eqq (by kernel_rfl)
theorem zr4 : tzr Try.prog 4 = some [.bool false] := eqq (by kernel_rfl)
theorem un4 : Try.prog.underlying 4 = some .bool := eqq (by kernel_rfl)
theorem sz5 : tsz Try.prog 5 = some 1 := eqq (by kernel_rfl)
theorem by5 : tby Try.prog 5 = some 1 := eqq (by kernel_rfl)
theorem ag5 : tag Try.prog 5 = some false := eqq (by kernel_rfl)
theorem zr5 : tzr Try.prog 5 = some [.int .u8 0] := eqq (by kernel_rfl)
theorem un5 : Try.prog.underlying 5 = some (.int .u8) := eqq (by kernel_rfl)
theorem sz9 : tsz Try.prog 9 = some 1 := eqq (by kernel_rfl)
theorem by9 : tby Try.prog 9 = some 16 := eqq (by kernel_rfl)
theorem ag9 : tag Try.prog 9 = some false := eqq (by kernel_rfl)
theorem zr9 : tzr Try.prog 9 = some [.string ⟨#[]⟩] := eqq (by kernel_rfl)
theorem un9 : Try.prog.underlying 9 = some .string := eqq (by kernel_rfl)
theorem sz22 : tsz Try.prog 22 = some 1 := eqq (by kernel_rfl)
theorem by22 : tby Try.prog 22 = some 24 := eqq (by kernel_rfl)
theorem ag22 : tag Try.prog 22 = some false := eqq (by kernel_rfl)
theorem zr22 : tzr Try.prog 22 = some [.slice none 0 0] := eqq (by kernel_rfl)
theorem un22 : Try.prog.underlying 22 = some (.slice 65) := eqq (by kernel_rfl)
theorem sz24 : tsz Try.prog 24 = some 2 := eqq (by kernel_rfl)
theorem by24 : tby Try.prog 24 = some 32 := eqq (by kernel_rfl)
theorem ag24 : tag Try.prog 24 = some true := eqq (by kernel_rfl)
theorem zr24 : tzr Try.prog 24 = some [.int .i64 0, .slice none 0 0] := eqq (by kernel_rfl)
theorem fl24_0 : fld Try.prog 24 0 = some (0, 3) := eqq (by kernel_rfl)
theorem pl24_0 : placeOf Try.prog 24 0 = some (0, 1) := eqq (by kernel_rfl)
theorem fl24_1 : fld Try.prog 24 1 = some (1, 22) := eqq (by kernel_rfl)
theorem pl24_1 : placeOf Try.prog 24 1 = some (1, 1) := eqq (by kernel_rfl)
theorem sz26 : tsz Try.prog 26 = some 2 := eqq (by kernel_rfl)
theorem by26 : tby Try.prog 26 = some 16 := eqq (by kernel_rfl)
theorem ag26 : tag Try.prog 26 = some true := eqq (by kernel_rfl)
theorem zr26 : tzr Try.prog 26 = some [.int .i64 0, .int .i64 0] := eqq (by kernel_rfl)
theorem fl26_0 : fld Try.prog 26 0 = some (0, 3) := eqq (by kernel_rfl)
theorem pl26_0 : placeOf Try.prog 26 0 = some (0, 1) := eqq (by kernel_rfl)
theorem fl26_1 : fld Try.prog 26 1 = some (1, 3) := eqq (by kernel_rfl)
theorem pl26_1 : placeOf Try.prog 26 1 = some (1, 1) := eqq (by kernel_rfl)
theorem sz29 : tsz Try.prog 29 = some 1 := eqq (by kernel_rfl)
theorem by29 : tby Try.prog 29 = some 8 := eqq (by kernel_rfl)
theorem ag29 : tag Try.prog 29 = some false := eqq (by kernel_rfl)
theorem zr29 : tzr Try.prog 29 = some [.int .i64 0] := eqq (by kernel_rfl)
theorem un29 : Try.prog.underlying 29 = some (.int .i64) := eqq (by kernel_rfl)
theorem sz30 : tsz Try.prog 30 = some 1 := eqq (by kernel_rfl)
theorem by30 : tby Try.prog 30 = some 0 := eqq (by kernel_rfl)
theorem ag30 : tag Try.prog 30 = some false := eqq (by kernel_rfl)
theorem sz32 : tsz Try.prog 32 = some 1 := eqq (by kernel_rfl)
theorem by32 : tby Try.prog 32 = some 24 := eqq (by kernel_rfl)
theorem ag32 : tag Try.prog 32 = some false := eqq (by kernel_rfl)
theorem zr32 : tzr Try.prog 32 = some [.slice none 0 0] := eqq (by kernel_rfl)
theorem un32 : Try.prog.underlying 32 = some (.slice 56) := eqq (by kernel_rfl)
theorem sz33 : tsz Try.prog 33 = some 1 := eqq (by kernel_rfl)
theorem by33 : tby Try.prog 33 = some 0 := eqq (by kernel_rfl)
theorem ag33 : tag Try.prog 33 = some false := eqq (by kernel_rfl)
theorem sz35 : tsz Try.prog 35 = some 1 := eqq (by kernel_rfl)
theorem by35 : tby Try.prog 35 = some 24 := eqq (by kernel_rfl)
theorem ag35 : tag Try.prog 35 = some false := eqq (by kernel_rfl)
theorem zr35 : tzr Try.prog 35 = some [.slice none 0 0] := eqq (by kernel_rfl)
theorem un35 : Try.prog.underlying 35 = some (.slice 9) := eqq (by kernel_rfl)
theorem sz36 : tsz Try.prog 36 = some 1 := eqq (by kernel_rfl)
theorem by36 : tby Try.prog 36 = some 0 := eqq (by kernel_rfl)
theorem ag36 : tag Try.prog 36 = some false := eqq (by kernel_rfl)
theorem sz41 : tsz Try.prog 41 = some 1 := eqq (by kernel_rfl)
theorem by41 : tby Try.prog 41 = some 24 := eqq (by kernel_rfl)
theorem ag41 : tag Try.prog 41 = some false := eqq (by kernel_rfl)
theorem zr41 : tzr Try.prog 41 = some [.slice none 0 0] := eqq (by kernel_rfl)
theorem un41 : Try.prog.underlying 41 = some (.slice 61) := eqq (by kernel_rfl)
theorem sz47 : tsz Try.prog 47 = some 1 := eqq (by kernel_rfl)
theorem by47 : tby Try.prog 47 = some 24 := eqq (by kernel_rfl)
theorem ag47 : tag Try.prog 47 = some false := eqq (by kernel_rfl)
theorem zr47 : tzr Try.prog 47 = some [.slice none 0 0] := eqq (by kernel_rfl)
theorem un47 : Try.prog.underlying 47 = some (.slice 53) := eqq (by kernel_rfl)
theorem sz53 : tsz Try.prog 53 = some 2 := eqq (by kernel_rfl)
theorem by53 : tby Try.prog 53 = some 24 := eqq (by kernel_rfl)
theorem ag53 : tag Try.prog 53 = some true := eqq (by kernel_rfl)
theorem zr53 : tzr Try.prog 53 = some [.string ⟨#[]⟩, .int .i64 0] := eqq (by kernel_rfl)
theorem fl53_0 : fld Try.prog 53 0 = some (0, 9) := eqq (by kernel_rfl)
theorem pl53_0 : placeOf Try.prog 53 0 = some (0, 1) := eqq (by kernel_rfl)
theorem fl53_1 : fld Try.prog 53 1 = some (1, 3) := eqq (by kernel_rfl)
theorem pl53_1 : placeOf Try.prog 53 1 = some (1, 1) := eqq (by kernel_rfl)
theorem sz54 : tsz Try.prog 54 = some 1 := eqq (by kernel_rfl)
theorem by54 : tby Try.prog 54 = some 24 := eqq (by kernel_rfl)
theorem ag54 : tag Try.prog 54 = some false := eqq (by kernel_rfl)
theorem zr54 : tzr Try.prog 54 = some [.slice none 0 0] := eqq (by kernel_rfl)
theorem un54 : Try.prog.underlying 54 = some (.slice 109) := eqq (by kernel_rfl)
theorem sz56 : tsz Try.prog 56 = some 8 := eqq (by kernel_rfl)
theorem by56 : tby Try.prog 56 = some 104 := eqq (by kernel_rfl)
theorem ag56 : tag Try.prog 56 = some true := eqq (by kernel_rfl)
theorem zr56 : tzr Try.prog 56 = some [.string ⟨#[]⟩, .int .i64 0, .string ⟨#[]⟩, .string ⟨#[]⟩, .int .i64 0, .slice none 0 0, .int .i64 0, .int .i64 0] := eqq (by kernel_rfl)
theorem fl56_0 : fld Try.prog 56 0 = some (0, 53) := eqq (by kernel_rfl)
theorem pl56_0 : placeOf Try.prog 56 0 = some (0, 2) := eqq (by kernel_rfl)
theorem fl56_1 : fld Try.prog 56 1 = some (2, 9) := eqq (by kernel_rfl)
theorem pl56_1 : placeOf Try.prog 56 1 = some (2, 1) := eqq (by kernel_rfl)
theorem fl56_2 : fld Try.prog 56 2 = some (3, 9) := eqq (by kernel_rfl)
theorem pl56_2 : placeOf Try.prog 56 2 = some (3, 1) := eqq (by kernel_rfl)
theorem fl56_3 : fld Try.prog 56 3 = some (4, 3) := eqq (by kernel_rfl)
theorem pl56_3 : placeOf Try.prog 56 3 = some (4, 1) := eqq (by kernel_rfl)
theorem fl56_4 : fld Try.prog 56 4 = some (5, 54) := eqq (by kernel_rfl)
theorem pl56_4 : placeOf Try.prog 56 4 = some (5, 1) := eqq (by kernel_rfl)
theorem fl56_5 : fld Try.prog 56 5 = some (6, 3) := eqq (by kernel_rfl)
theorem pl56_5 : placeOf Try.prog 56 5 = some (6, 1) := eqq (by kernel_rfl)
theorem fl56_6 : fld Try.prog 56 6 = some (7, 3) := eqq (by kernel_rfl)
theorem pl56_6 : placeOf Try.prog 56 6 = some (7, 1) := eqq (by kernel_rfl)
theorem sz61 : tsz Try.prog 61 = some 10 := eqq (by kernel_rfl)
theorem by61 : tby Try.prog 61 = some 120 := eqq (by kernel_rfl)
theorem ag61 : tag Try.prog 61 = some true := eqq (by kernel_rfl)
theorem zr61 : tzr Try.prog 61 = some [.string ⟨#[]⟩, .int .i64 0, .string ⟨#[]⟩, .string ⟨#[]⟩, .int .i64 0, .slice none 0 0, .int .i64 0, .int .i64 0, .int .i64 0, .int .i64 0] := eqq (by kernel_rfl)
theorem fl61_0 : fld Try.prog 61 0 = some (0, 56) := eqq (by kernel_rfl)
theorem pl61_0 : placeOf Try.prog 61 0 = some (0, 8) := eqq (by kernel_rfl)
theorem fl61_1 : fld Try.prog 61 1 = some (8, 3) := eqq (by kernel_rfl)
theorem pl61_1 : placeOf Try.prog 61 1 = some (8, 1) := eqq (by kernel_rfl)
theorem fl61_2 : fld Try.prog 61 2 = some (9, 3) := eqq (by kernel_rfl)
theorem pl61_2 : placeOf Try.prog 61 2 = some (9, 1) := eqq (by kernel_rfl)
theorem sz65 : tsz Try.prog 65 = some 2 := eqq (by kernel_rfl)
theorem by65 : tby Try.prog 65 = some 40 := eqq (by kernel_rfl)
theorem ag65 : tag Try.prog 65 = some true := eqq (by kernel_rfl)
theorem zr65 : tzr Try.prog 65 = some [.string ⟨#[]⟩, .slice none 0 0] := eqq (by kernel_rfl)
theorem fl65_0 : fld Try.prog 65 0 = some (0, 9) := eqq (by kernel_rfl)
theorem pl65_0 : placeOf Try.prog 65 0 = some (0, 1) := eqq (by kernel_rfl)
theorem fl65_1 : fld Try.prog 65 1 = some (1, 41) := eqq (by kernel_rfl)
theorem pl65_1 : placeOf Try.prog 65 1 = some (1, 1) := eqq (by kernel_rfl)
theorem sz68 : tsz Try.prog 68 = some 1 := eqq (by kernel_rfl)
theorem by68 : tby Try.prog 68 = some 8 := eqq (by kernel_rfl)
theorem ag68 : tag Try.prog 68 = some false := eqq (by kernel_rfl)
theorem zr68 : tzr Try.prog 68 = some [.pointer none] := eqq (by kernel_rfl)
theorem un68 : Try.prog.underlying 68 = some (.pointer 75) := eqq (by kernel_rfl)
theorem sz70 : tsz Try.prog 70 = some 1 := eqq (by kernel_rfl)
theorem by70 : tby Try.prog 70 = some 0 := eqq (by kernel_rfl)
theorem ag70 : tag Try.prog 70 = some false := eqq (by kernel_rfl)
theorem sz73 : tsz Try.prog 73 = some 1 := eqq (by kernel_rfl)
theorem by73 : tby Try.prog 73 = some 8 := eqq (by kernel_rfl)
theorem ag73 : tag Try.prog 73 = some false := eqq (by kernel_rfl)
theorem zr73 : tzr Try.prog 73 = some [.nilFunc] := eqq (by kernel_rfl)
theorem sz75 : tsz Try.prog 75 = some 2 := eqq (by kernel_rfl)
theorem by75 : tby Try.prog 75 = some 32 := eqq (by kernel_rfl)
theorem ag75 : tag Try.prog 75 = some true := eqq (by kernel_rfl)
theorem zr75 : tzr Try.prog 75 = some [.slice none 0 0, .nilFunc] := eqq (by kernel_rfl)
theorem fl75_0 : fld Try.prog 75 0 = some (0, 22) := eqq (by kernel_rfl)
theorem pl75_0 : placeOf Try.prog 75 0 = some (0, 1) := eqq (by kernel_rfl)
theorem fl75_1 : fld Try.prog 75 1 = some (1, 73) := eqq (by kernel_rfl)
theorem pl75_1 : placeOf Try.prog 75 1 = some (1, 1) := eqq (by kernel_rfl)
theorem sz78 : tsz Try.prog 78 = some 1 := eqq (by kernel_rfl)
theorem by78 : tby Try.prog 78 = some 8 := eqq (by kernel_rfl)
theorem ag78 : tag Try.prog 78 = some false := eqq (by kernel_rfl)
theorem zr78 : tzr Try.prog 78 = some [.nilFunc] := eqq (by kernel_rfl)
theorem sz86 : tsz Try.prog 86 = some 1 := eqq (by kernel_rfl)
theorem by86 : tby Try.prog 86 = some 8 := eqq (by kernel_rfl)
theorem ag86 : tag Try.prog 86 = some false := eqq (by kernel_rfl)
theorem zr86 : tzr Try.prog 86 = some [.pointer none] := eqq (by kernel_rfl)
theorem un86 : Try.prog.underlying 86 = some (.pointer 65) := eqq (by kernel_rfl)
theorem sz90 : tsz Try.prog 90 = some 1 := eqq (by kernel_rfl)
theorem by90 : tby Try.prog 90 = some 8 := eqq (by kernel_rfl)
theorem ag90 : tag Try.prog 90 = some false := eqq (by kernel_rfl)
theorem zr90 : tzr Try.prog 90 = some [.nilFunc] := eqq (by kernel_rfl)
theorem sz98 : tsz Try.prog 98 = some 1 := eqq (by kernel_rfl)
theorem by98 : tby Try.prog 98 = some 24 := eqq (by kernel_rfl)
theorem ag98 : tag Try.prog 98 = some false := eqq (by kernel_rfl)
theorem zr98 : tzr Try.prog 98 = some [.slice none 0 0] := eqq (by kernel_rfl)
theorem un98 : Try.prog.underlying 98 = some (.slice 3) := eqq (by kernel_rfl)
theorem sz101 : tsz Try.prog 101 = some 1 := eqq (by kernel_rfl)
theorem by101 : tby Try.prog 101 = some 8 := eqq (by kernel_rfl)
theorem ag101 : tag Try.prog 101 = some false := eqq (by kernel_rfl)
theorem zr101 : tzr Try.prog 101 = some [.map none] := eqq (by kernel_rfl)
theorem un101 : Try.prog.underlying 101 = some (.map 103 61) := eqq (by kernel_rfl)
theorem sz103 : tsz Try.prog 103 = some 9 := eqq (by kernel_rfl)
theorem by103 : tby Try.prog 103 = some 104 := eqq (by kernel_rfl)
theorem ag103 : tag Try.prog 103 = some true := eqq (by kernel_rfl)
theorem zr103 : tzr Try.prog 103 = some [.string ⟨#[]⟩, .int .i64 0, .string ⟨#[]⟩, .string ⟨#[]⟩, .int .i64 0, .int .i64 0, .int .i64 0, .int .i64 0, .string ⟨#[]⟩] := eqq (by kernel_rfl)
theorem fl103_0 : fld Try.prog 103 0 = some (0, 53) := eqq (by kernel_rfl)
theorem pl103_0 : placeOf Try.prog 103 0 = some (0, 2) := eqq (by kernel_rfl)
theorem fl103_1 : fld Try.prog 103 1 = some (2, 9) := eqq (by kernel_rfl)
theorem pl103_1 : placeOf Try.prog 103 1 = some (2, 1) := eqq (by kernel_rfl)
theorem fl103_2 : fld Try.prog 103 2 = some (3, 9) := eqq (by kernel_rfl)
theorem pl103_2 : placeOf Try.prog 103 2 = some (3, 1) := eqq (by kernel_rfl)
theorem fl103_3 : fld Try.prog 103 3 = some (4, 3) := eqq (by kernel_rfl)
theorem pl103_3 : placeOf Try.prog 103 3 = some (4, 1) := eqq (by kernel_rfl)
theorem fl103_4 : fld Try.prog 103 4 = some (5, 3) := eqq (by kernel_rfl)
theorem pl103_4 : placeOf Try.prog 103 4 = some (5, 1) := eqq (by kernel_rfl)
theorem fl103_5 : fld Try.prog 103 5 = some (6, 3) := eqq (by kernel_rfl)
theorem pl103_5 : placeOf Try.prog 103 5 = some (6, 1) := eqq (by kernel_rfl)
theorem fl103_6 : fld Try.prog 103 6 = some (7, 3) := eqq (by kernel_rfl)
theorem pl103_6 : placeOf Try.prog 103 6 = some (7, 1) := eqq (by kernel_rfl)
theorem fl103_7 : fld Try.prog 103 7 = some (8, 9) := eqq (by kernel_rfl)
theorem pl103_7 : placeOf Try.prog 103 7 = some (8, 1) := eqq (by kernel_rfl)
theorem sz105 : tsz Try.prog 105 = some 1 := eqq (by kernel_rfl)
theorem by105 : tby Try.prog 105 = some 0 := eqq (by kernel_rfl)
theorem ag105 : tag Try.prog 105 = some false := eqq (by kernel_rfl)
theorem sz107 : tsz Try.prog 107 = some 1 := eqq (by kernel_rfl)
theorem by107 : tby Try.prog 107 = some 8 := eqq (by kernel_rfl)
theorem ag107 : tag Try.prog 107 = some false := eqq (by kernel_rfl)
theorem zr107 : tzr Try.prog 107 = some [.nilFunc] := eqq (by kernel_rfl)
theorem sz109 : tsz Try.prog 109 = some 3 := eqq (by kernel_rfl)
theorem by109 : tby Try.prog 109 = some 32 := eqq (by kernel_rfl)
theorem ag109 : tag Try.prog 109 = some true := eqq (by kernel_rfl)
theorem zr109 : tzr Try.prog 109 = some [.int .i64 0, .int .i64 0, .string ⟨#[]⟩] := eqq (by kernel_rfl)
theorem fl109_0 : fld Try.prog 109 0 = some (0, 3) := eqq (by kernel_rfl)
theorem pl109_0 : placeOf Try.prog 109 0 = some (0, 1) := eqq (by kernel_rfl)
theorem fl109_1 : fld Try.prog 109 1 = some (1, 3) := eqq (by kernel_rfl)
theorem pl109_1 : placeOf Try.prog 109 1 = some (1, 1) := eqq (by kernel_rfl)
theorem fl109_2 : fld Try.prog 109 2 = some (2, 9) := eqq (by kernel_rfl)
theorem pl109_2 : placeOf Try.prog 109 2 = some (2, 1) := eqq (by kernel_rfl)
theorem sz112 : tsz Try.prog 112 = some 1 := eqq (by kernel_rfl)
theorem by112 : tby Try.prog 112 = some 8 := eqq (by kernel_rfl)
theorem ag112 : tag Try.prog 112 = some false := eqq (by kernel_rfl)
theorem zr112 : tzr Try.prog 112 = some [.int .u64 0] := eqq (by kernel_rfl)
theorem un112 : Try.prog.underlying 112 = some (.int .u64) := eqq (by kernel_rfl)
theorem sz115 : tsz Try.prog 115 = some 1 := eqq (by kernel_rfl)
theorem by115 : tby Try.prog 115 = some 24 := eqq (by kernel_rfl)
theorem ag115 : tag Try.prog 115 = some false := eqq (by kernel_rfl)
theorem zr115 : tzr Try.prog 115 = some [.slice none 0 0] := eqq (by kernel_rfl)
theorem un115 : Try.prog.underlying 115 = some (.slice 5) := eqq (by kernel_rfl)
theorem sz119 : tsz Try.prog 119 = some 1 := eqq (by kernel_rfl)
theorem by119 : tby Try.prog 119 = some 8 := eqq (by kernel_rfl)
theorem ag119 : tag Try.prog 119 = some false := eqq (by kernel_rfl)
theorem zr119 : tzr Try.prog 119 = some [.nilFunc] := eqq (by kernel_rfl)
theorem eq26 : eqT Try.prog 26 = some [.i .i64, .i .i64] := eqq (by kernel_rfl)
theorem eq53 : eqT Try.prog 53 = some [.s, .i .i64] := eqq (by kernel_rfl)
theorem eq103 : eqT Try.prog 103 = some [.s, .i .i64, .s, .s, .i .i64, .i .i64, .i .i64, .i .i64, .s] := eqq (by kernel_rfl)
theorem eq109 : eqT Try.prog 109 = some [.i .i64, .i .i64, .s] := eqq (by kernel_rfl)
theorem mp101 : mapT Try.prog 101 = some (103, ([.s, .i .i64, .s, .s, .i .i64, .i .i64, .i .i64, .i .i64, .s], true), .agg [.lit (.string ⟨#[]⟩), .lit (.int .i64 0), .lit (.string ⟨#[]⟩), .lit (.string ⟨#[]⟩), .lit (.int .i64 0), .lit (.slice none 0 0), .lit (.int .i64 0), .lit (.int .i64 0), .lit (.int .i64 0), .lit (.int .i64 0)]) := eqq (by kernel_rfl)
theorem cb10 : callB Try.prog 10 = true := eqq (by kernel_rfl)   -- asof/asoflaw22.example
theorem cb11 : callB Try.prog 11 = true := eqq (by kernel_rfl)   -- asof/asoflaw22.right
theorem cb12 : callB Try.prog 12 = true := eqq (by kernel_rfl)   -- asof/arrange.Advance
theorem cb13 : callB Try.prog 13 = true := eqq (by kernel_rfl)   -- asof/arrange.Rows
theorem cb14 : callB Try.prog 14 = true := eqq (by kernel_rfl)   -- asof/arrange.Keys
theorem cb15 : callB Try.prog 15 = true := eqq (by kernel_rfl)   -- asof/asofref13.SameRows
theorem cb16 : callB Try.prog 16 = true := eqq (by kernel_rfl)   -- asof/asofref22.SameKeys
theorem cb17 : callB Try.prog 17 = true := eqq (by kernel_rfl)   -- asof/arrange.Insert
theorem cb18 : callB Try.prog 18 = true := eqq (by kernel_rfl)   -- asof/asofref22.Same
theorem cb19 : callB Try.prog 19 = true := eqq (by kernel_rfl)   -- asof/delta.Negate
theorem cb24 : callB Try.prog 24 = true := eqq (by kernel_rfl)   -- asof/asoflaw22.ever
theorem cb25 : callB Try.prog 25 = true := eqq (by kernel_rfl)   -- asof/facts.CompareID
theorem cb26 : callB Try.prog 26 = true := eqq (by kernel_rfl)   -- asof/asoflaw22.few
theorem cb28 : callB Try.prog 28 = true := eqq (by kernel_rfl)   -- asof/asofref22.Check
theorem cb29 : callB Try.prog 29 = true := eqq (by kernel_rfl)   -- asof/arrange.New
theorem cb33 : callB Try.prog 33 = true := eqq (by kernel_rfl)   -- asof/asoflaw22.row
theorem cb34 : callB Try.prog 34 = true := eqq (by kernel_rfl)   -- asof/arrange.every
theorem cb35 : callB Try.prog 35 = true := eqq (by kernel_rfl)   -- asof/arrange.of
theorem cb36 : callB Try.prog 36 = true := eqq (by kernel_rfl)   -- asof/arrange.groups
theorem cb37 : callB Try.prog 37 = true := eqq (by kernel_rfl)   -- (*asof/arrange.sorted[string, asof/api.Group]).place
theorem cb38 : callB Try.prog 38 = true := eqq (by kernel_rfl)   -- asof/delta.At
theorem cb39 : callB Try.prog 39 = true := eqq (by kernel_rfl)   -- asof/asofref13.SameRow
theorem cb40 : callB Try.prog 40 = true := eqq (by kernel_rfl)   -- slices.ContainsFunc[[]asof/api.Delta,asof/api.Delta]
theorem cb41 : callB Try.prog 41 = true := eqq (by kernel_rfl)   -- asof/arrange.Insert$1
theorem cb42 : callB Try.prog 42 = true := eqq (by kernel_rfl)   -- asof/asofref22.sameDeltas
theorem cb43 : callB Try.prog 43 = true := eqq (by kernel_rfl)   -- slices.Clone[[]asof/api.Delta,asof/api.Delta]
theorem cb44 : callB Try.prog 44 = true := eqq (by kernel_rfl)   -- asof/asofref20.At
theorem cb45 : callB Try.prog 45 = true := eqq (by kernel_rfl)   -- asof/delta.Purge
theorem cb46 : callB Try.prog 46 = true := eqq (by kernel_rfl)   -- asof/asofref22.Of
theorem cb47 : callB Try.prog 47 = true := eqq (by kernel_rfl)   -- asof/asofref20.Purge
theorem cb48 : callB Try.prog 48 = true := eqq (by kernel_rfl)   -- asof/asofref22.All
theorem cb49 : callB Try.prog 49 = true := eqq (by kernel_rfl)   -- cmp.Or[int]
theorem cb50 : callB Try.prog 50 = true := eqq (by kernel_rfl)   -- cmp.Compare[string]
theorem cb51 : callB Try.prog 51 = true := eqq (by kernel_rfl)   -- cmp.Compare[int]
theorem cb53 : callB Try.prog 53 = true := eqq (by kernel_rfl)   -- asof/delta.Consolidate
theorem cb54 : callB Try.prog 54 = true := eqq (by kernel_rfl)   -- asof/arrange.same
theorem cb55 : callB Try.prog 55 = true := eqq (by kernel_rfl)   -- asof/asofref20.Consolidate
theorem cb56 : callB Try.prog 56 = true := eqq (by kernel_rfl)   -- (*asof/arrange.sorted[string, asof/api.Group]).at
theorem cb57 : callB Try.prog 57 = true := eqq (by kernel_rfl)   -- slices.Clone[[]asof/api.Group,asof/api.Group]
theorem cb58 : callB Try.prog 58 = true := eqq (by kernel_rfl)   -- asof/arrange.groups$1
theorem cb59 : callB Try.prog 59 = true := eqq (by kernel_rfl)   -- slices.BinarySearchFunc[[]asof/api.Group,asof/api.Group,string]
theorem cb60 : callB Try.prog 60 = true := eqq (by kernel_rfl)   -- (*asof/arrange.sorted[string, asof/api.Group]).place$1
theorem cb61 : callB Try.prog 61 = true := eqq (by kernel_rfl)   -- asof/asofref13.SameFields
theorem cb62 : callB Try.prog 62 = true := eqq (by kernel_rfl)   -- slices.IndexFunc[[]asof/api.Delta,asof/api.Delta]
theorem cb63 : callB Try.prog 63 = true := eqq (by kernel_rfl)   -- asof/asofref20.Count
theorem cb64 : callB Try.prog 64 = true := eqq (by kernel_rfl)   -- asof/asofref20.In
theorem cb65 : callB Try.prog 65 = true := eqq (by kernel_rfl)   -- asof/asofref20.CompareFull
theorem cb66 : callB Try.prog 66 = true := eqq (by kernel_rfl)   -- slices.Contains[[]asof/api.FactID,asof/api.FactID]
theorem cb67 : callB Try.prog 67 = true := eqq (by kernel_rfl)   -- asof/asofref22.keys
theorem cb68 : callB Try.prog 68 = true := eqq (by kernel_rfl)   -- asof/asofref15.InIDs
theorem cb69 : callB Try.prog 69 = true := eqq (by kernel_rfl)   -- cmp.isNaN[string]
theorem cb70 : callB Try.prog 70 = true := eqq (by kernel_rfl)   -- cmp.isNaN[int]
theorem cb71 : callB Try.prog 71 = true := eqq (by kernel_rfl)   -- asof/delta.markOf
theorem cb72 : callB Try.prog 72 = true := eqq (by kernel_rfl)   -- slices.SortFunc[[]asof/api.Delta,asof/api.Delta]
theorem cb73 : callB Try.prog 73 = true := eqq (by kernel_rfl)   -- asof/delta.Consolidate$1
theorem cb74 : callB Try.prog 74 = true := eqq (by kernel_rfl)   -- asof/delta.compareFull
theorem cb76 : callB Try.prog 76 = true := eqq (by kernel_rfl)   -- asof/asofref20.put
theorem cb77 : callB Try.prog 77 = true := eqq (by kernel_rfl)   -- slices.Insert[[]asof/api.Group,asof/api.Group]
theorem cb78 : callB Try.prog 78 = true := eqq (by kernel_rfl)   -- asof/asofref13.CompareRow
theorem cb79 : callB Try.prog 79 = true := eqq (by kernel_rfl)   -- asof/asofref20.order
theorem cb80 : callB Try.prog 80 = true := eqq (by kernel_rfl)   -- asof/asofref20.words
theorem cb81 : callB Try.prog 81 = true := eqq (by kernel_rfl)   -- asof/asofref20.fields
theorem cb82 : callB Try.prog 82 = true := eqq (by kernel_rfl)   -- slices.Index[[]asof/api.FactID,asof/api.FactID]
theorem cb85 : callB Try.prog 85 = true := eqq (by kernel_rfl)   -- asof/facts.CompareRow
theorem cb86 : callB Try.prog 86 = true := eqq (by kernel_rfl)   -- strings.Compare
theorem cb87 : callB Try.prog 87 = true := eqq (by kernel_rfl)   -- slices.CompareFunc[[]asof/api.Value,[]asof/api.Value,asof/api.Value,asof/api.Value]
theorem cb88 : callB Try.prog 88 = true := eqq (by kernel_rfl)   -- asof/values.Compare
theorem cb89 : callB Try.prog 89 = true := eqq (by kernel_rfl)   -- asof/asofref20.less
theorem cb90 : callB Try.prog 90 = false := eqq (by kernel_rfl)   -- slices.overlaps[asof/api.Group]
theorem cb91 : callB Try.prog 91 = true := eqq (by kernel_rfl)   -- slices.rotateRight[asof/api.Group]
theorem cb92 : callB Try.prog 92 = true := eqq (by kernel_rfl)   -- asof/asofref13.compare
theorem cb93 : callB Try.prog 93 = true := eqq (by kernel_rfl)   -- asof/asofref13.CompareID
theorem cb94 : callB Try.prog 94 = true := eqq (by kernel_rfl)   -- asof/asofref05.Compare
theorem cb105 : callB Try.prog 105 = true := eqq (by kernel_rfl)   -- internal/bytealg.CompareString
theorem cb107 : callB Try.prog 107 = true := eqq (by kernel_rfl)   -- asof/asofref05.order
theorem cb113 : callB Try.prog 113 = false := eqq (by kernel_rfl)   -- internal/bytealg.abigen_runtime_cmpstring
end Go.Proofs.Ytopfanlkbepemaa.Ty
