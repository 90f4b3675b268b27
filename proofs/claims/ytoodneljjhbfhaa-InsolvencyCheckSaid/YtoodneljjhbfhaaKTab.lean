/- Closed facts on the types of this translation, each reckoned by the kernel. Written by a small program. -/
import Derived.Test.YtoodneljjhbfhaaKDet
import Derived.Test.YtoodneljjhbfhaaRows
import Derived.KernelRfl
namespace Go.Proofs.Ytoodneljjhbfhaa
theorem na1 : isAggB Try.prog 1 = false := by kernel_rfl
theorem us1 : (Try.prog.underlying 1).isSome = true := by kernel_rfl
theorem sz1 : sizeB Try.prog 1 = some 1 := by kernel_rfl
theorem na2 : isAggB Try.prog 2 = false := by kernel_rfl
theorem us2 : (Try.prog.underlying 2).isSome = true := by kernel_rfl
theorem sz2 : sizeB Try.prog 2 = some 1 := by kernel_rfl
theorem un2 : Try.prog.underlying 2 = some (.int .i64) := by kernel_rfl
theorem na3 : isAggB Try.prog 3 = false := by kernel_rfl
theorem us3 : (Try.prog.underlying 3).isSome = true := by kernel_rfl
theorem sz3 : sizeB Try.prog 3 = some 1 := by kernel_rfl
theorem un3 : Try.prog.underlying 3 = some (.int .i64) := by kernel_rfl
theorem na4 : isAggB Try.prog 4 = false := by kernel_rfl
theorem us4 : (Try.prog.underlying 4).isSome = true := by kernel_rfl
theorem sz4 : sizeB Try.prog 4 = some 1 := by kernel_rfl
theorem na5 : isAggB Try.prog 5 = false := by kernel_rfl
theorem us5 : (Try.prog.underlying 5).isSome = true := by kernel_rfl
theorem sz5 : sizeB Try.prog 5 = some 1 := by kernel_rfl
theorem un5 : Try.prog.underlying 5 = some (.int .u8) := by kernel_rfl
theorem na6 : isAggB Try.prog 6 = false := by kernel_rfl
theorem us6 : (Try.prog.underlying 6).isSome = true := by kernel_rfl
theorem sz6 : sizeB Try.prog 6 = some 1 := by kernel_rfl
theorem un6 : Try.prog.underlying 6 = some (.int .u8) := by kernel_rfl
theorem ag7 : isAggB Try.prog 7 = true := by kernel_rfl
theorem fd7_0 : fieldB Try.prog 7 0 = some (0, 1) := by kernel_rfl
theorem fd7_1 : fieldB Try.prog 7 1 = some (1, 1) := by kernel_rfl
theorem fd7_2 : fieldB Try.prog 7 2 = some (2, 1) := by kernel_rfl
theorem fd7_3 : fieldB Try.prog 7 3 = some (3, 1) := by kernel_rfl
theorem pl7 : placesB Try.prog 7 = some [(0, 1), (1, 1), (2, 1), (3, 1)] := by kernel_rfl
theorem sz7 : sizeB Try.prog 7 = some 4 := by kernel_rfl
theorem ag8 : isAggB Try.prog 8 = true := by kernel_rfl
theorem fd8_0 : fieldB Try.prog 8 0 = some (0, 1) := by kernel_rfl
theorem fd8_1 : fieldB Try.prog 8 1 = some (1, 1) := by kernel_rfl
theorem fd8_2 : fieldB Try.prog 8 2 = some (2, 1) := by kernel_rfl
theorem fd8_3 : fieldB Try.prog 8 3 = some (3, 1) := by kernel_rfl
theorem pl8 : placesB Try.prog 8 = some [(0, 1), (1, 1), (2, 1), (3, 1)] := by kernel_rfl
theorem sz8 : sizeB Try.prog 8 = some 4 := by kernel_rfl
theorem na9 : isAggB Try.prog 9 = false := by kernel_rfl
theorem us9 : (Try.prog.underlying 9).isSome = true := by kernel_rfl
theorem sz9 : sizeB Try.prog 9 = some 1 := by kernel_rfl
theorem na10 : isAggB Try.prog 10 = false := by kernel_rfl
theorem us10 : (Try.prog.underlying 10).isSome = true := by kernel_rfl
theorem sz10 : sizeB Try.prog 10 = some 1 := by kernel_rfl
theorem na11 : isAggB Try.prog 11 = false := by kernel_rfl
theorem us11 : (Try.prog.underlying 11).isSome = true := by kernel_rfl
theorem sz11 : sizeB Try.prog 11 = some 1 := by kernel_rfl
theorem na12 : isAggB Try.prog 12 = false := by kernel_rfl
theorem us12 : (Try.prog.underlying 12).isSome = true := by kernel_rfl
theorem sz12 : sizeB Try.prog 12 = some 1 := by kernel_rfl
theorem un12 : Try.prog.underlying 12 = some (.int .u64) := by kernel_rfl
theorem ag13 : isAggB Try.prog 13 = true := by kernel_rfl
theorem fd13_0 : fieldB Try.prog 13 0 = some (0, 1) := by kernel_rfl
theorem fd13_1 : fieldB Try.prog 13 1 = some (1, 1) := by kernel_rfl
theorem pl13 : placesB Try.prog 13 = some [(0, 1), (1, 1)] := by kernel_rfl
theorem sz13 : sizeB Try.prog 13 = some 2 := by kernel_rfl
theorem ag14 : isAggB Try.prog 14 = true := by kernel_rfl
theorem fd14_0 : fieldB Try.prog 14 0 = some (0, 1) := by kernel_rfl
theorem fd14_1 : fieldB Try.prog 14 1 = some (1, 1) := by kernel_rfl
theorem pl14 : placesB Try.prog 14 = some [(0, 1), (1, 1)] := by kernel_rfl
theorem sz14 : sizeB Try.prog 14 = some 2 := by kernel_rfl
theorem na15 : isAggB Try.prog 15 = false := by kernel_rfl
theorem us15 : (Try.prog.underlying 15).isSome = true := by kernel_rfl
theorem sz15 : sizeB Try.prog 15 = some 1 := by kernel_rfl
theorem na16 : isAggB Try.prog 16 = false := by kernel_rfl
theorem us16 : (Try.prog.underlying 16).isSome = true := by kernel_rfl
theorem sz16 : sizeB Try.prog 16 = some 1 := by kernel_rfl
theorem na17 : isAggB Try.prog 17 = false := by kernel_rfl
theorem us17 : (Try.prog.underlying 17).isSome = true := by kernel_rfl
theorem sz17 : sizeB Try.prog 17 = some 1 := by kernel_rfl
theorem ag18 : isAggB Try.prog 18 = true := by kernel_rfl
theorem fd18_0 : fieldB Try.prog 18 0 = some (0, 1) := by kernel_rfl
theorem pl18 : placesB Try.prog 18 = some [(0, 1)] := by kernel_rfl
theorem sz18 : sizeB Try.prog 18 = some 1 := by kernel_rfl
theorem ag19 : isAggB Try.prog 19 = true := by kernel_rfl
theorem fd19_0 : fieldB Try.prog 19 0 = some (0, 1) := by kernel_rfl
theorem pl19 : placesB Try.prog 19 = some [(0, 1)] := by kernel_rfl
theorem sz19 : sizeB Try.prog 19 = some 1 := by kernel_rfl
theorem na21 : isAggB Try.prog 21 = false := by kernel_rfl
theorem us21 : (Try.prog.underlying 21).isSome = true := by kernel_rfl
theorem sz21 : sizeB Try.prog 21 = some 1 := by kernel_rfl
theorem un21 : Try.prog.underlying 21 = some (.int .i32) := by kernel_rfl
theorem na22 : isAggB Try.prog 22 = false := by kernel_rfl
theorem us22 : (Try.prog.underlying 22).isSome = true := by kernel_rfl
theorem sz22 : sizeB Try.prog 22 = some 1 := by kernel_rfl
theorem un22 : Try.prog.underlying 22 = some (.slice 3) := by kernel_rfl
theorem na23 : isAggB Try.prog 23 = false := by kernel_rfl
theorem us23 : (Try.prog.underlying 23).isSome = true := by kernel_rfl
theorem sz23 : sizeB Try.prog 23 = some 1 := by kernel_rfl
theorem na24 : isAggB Try.prog 24 = false := by kernel_rfl
theorem us24 : (Try.prog.underlying 24).isSome = true := by kernel_rfl
theorem sz24 : sizeB Try.prog 24 = some 1 := by kernel_rfl
theorem un24 : Try.prog.underlying 24 = some (.int .i64) := by kernel_rfl
theorem na26 : isAggB Try.prog 26 = false := by kernel_rfl
theorem us26 : (Try.prog.underlying 26).isSome = true := by kernel_rfl
theorem sz26 : sizeB Try.prog 26 = some 1 := by kernel_rfl
theorem na27 : isAggB Try.prog 27 = false := by kernel_rfl
theorem us27 : (Try.prog.underlying 27).isSome = true := by kernel_rfl
theorem sz27 : sizeB Try.prog 27 = some 1 := by kernel_rfl
theorem na29 : isAggB Try.prog 29 = false := by kernel_rfl
theorem us29 : (Try.prog.underlying 29).isSome = true := by kernel_rfl
theorem sz29 : sizeB Try.prog 29 = some 1 := by kernel_rfl
theorem na30 : isAggB Try.prog 30 = false := by kernel_rfl
theorem us30 : (Try.prog.underlying 30).isSome = true := by kernel_rfl
theorem sz30 : sizeB Try.prog 30 = some 1 := by kernel_rfl
theorem na31 : isAggB Try.prog 31 = false := by kernel_rfl
theorem us31 : (Try.prog.underlying 31).isSome = true := by kernel_rfl
theorem sz31 : sizeB Try.prog 31 = some 1 := by kernel_rfl
theorem na32 : isAggB Try.prog 32 = false := by kernel_rfl
theorem us32 : (Try.prog.underlying 32).isSome = true := by kernel_rfl
theorem sz32 : sizeB Try.prog 32 = some 1 := by kernel_rfl
theorem na33 : isAggB Try.prog 33 = false := by kernel_rfl
theorem us33 : (Try.prog.underlying 33).isSome = true := by kernel_rfl
theorem sz33 : sizeB Try.prog 33 = some 1 := by kernel_rfl
theorem na34 : isAggB Try.prog 34 = false := by kernel_rfl
theorem us34 : (Try.prog.underlying 34).isSome = true := by kernel_rfl
theorem sz34 : sizeB Try.prog 34 = some 1 := by kernel_rfl
theorem na35 : isAggB Try.prog 35 = false := by kernel_rfl
theorem us35 : (Try.prog.underlying 35).isSome = true := by kernel_rfl
theorem sz35 : sizeB Try.prog 35 = some 1 := by kernel_rfl
theorem na36 : isAggB Try.prog 36 = false := by kernel_rfl
theorem us36 : (Try.prog.underlying 36).isSome = true := by kernel_rfl
theorem sz36 : sizeB Try.prog 36 = some 1 := by kernel_rfl
theorem un36 : Try.prog.underlying 36 = some (.slice 48) := by kernel_rfl
theorem na37 : isAggB Try.prog 37 = false := by kernel_rfl
theorem us37 : (Try.prog.underlying 37).isSome = true := by kernel_rfl
theorem sz37 : sizeB Try.prog 37 = some 1 := by kernel_rfl
theorem na38 : isAggB Try.prog 38 = false := by kernel_rfl
theorem us38 : (Try.prog.underlying 38).isSome = true := by kernel_rfl
theorem sz38 : sizeB Try.prog 38 = some 1 := by kernel_rfl
theorem na39 : isAggB Try.prog 39 = false := by kernel_rfl
theorem us39 : (Try.prog.underlying 39).isSome = true := by kernel_rfl
theorem sz39 : sizeB Try.prog 39 = some 1 := by kernel_rfl
theorem un39 : Try.prog.underlying 39 = some (.slice 46) := by kernel_rfl
theorem na41 : isAggB Try.prog 41 = false := by kernel_rfl
theorem us41 : (Try.prog.underlying 41).isSome = true := by kernel_rfl
theorem sz41 : sizeB Try.prog 41 = some 1 := by kernel_rfl
theorem na42 : isAggB Try.prog 42 = false := by kernel_rfl
theorem us42 : (Try.prog.underlying 42).isSome = true := by kernel_rfl
theorem sz42 : sizeB Try.prog 42 = some 1 := by kernel_rfl
theorem na43 : isAggB Try.prog 43 = false := by kernel_rfl
theorem us43 : (Try.prog.underlying 43).isSome = true := by kernel_rfl
theorem sz43 : sizeB Try.prog 43 = some 1 := by kernel_rfl
theorem na44 : isAggB Try.prog 44 = false := by kernel_rfl
theorem us44 : (Try.prog.underlying 44).isSome = true := by kernel_rfl
theorem sz44 : sizeB Try.prog 44 = some 1 := by kernel_rfl
theorem ag45 : isAggB Try.prog 45 = true := by kernel_rfl
theorem fd45_0 : fieldB Try.prog 45 0 = some (0, 1) := by kernel_rfl
theorem fd45_1 : fieldB Try.prog 45 1 = some (1, 1) := by kernel_rfl
theorem fd45_2 : fieldB Try.prog 45 2 = some (2, 1) := by kernel_rfl
theorem fd45_3 : fieldB Try.prog 45 3 = some (3, 1) := by kernel_rfl
theorem fd45_4 : fieldB Try.prog 45 4 = some (4, 1) := by kernel_rfl
theorem eq45 : eqOkB Try.prog 45 5 = true := by kernel_rfl
theorem pl45 : placesB Try.prog 45 = some [(0, 1), (1, 1), (2, 1), (3, 1), (4, 1)] := by kernel_rfl
theorem sz45 : sizeB Try.prog 45 = some 5 := by kernel_rfl
theorem ag46 : isAggB Try.prog 46 = true := by kernel_rfl
theorem fd46_0 : fieldB Try.prog 46 0 = some (0, 1) := by kernel_rfl
theorem fd46_1 : fieldB Try.prog 46 1 = some (1, 1) := by kernel_rfl
theorem fd46_2 : fieldB Try.prog 46 2 = some (2, 1) := by kernel_rfl
theorem fd46_3 : fieldB Try.prog 46 3 = some (3, 1) := by kernel_rfl
theorem fd46_4 : fieldB Try.prog 46 4 = some (4, 1) := by kernel_rfl
theorem eq46 : eqOkB Try.prog 46 5 = true := by kernel_rfl
theorem pl46 : placesB Try.prog 46 = some [(0, 1), (1, 1), (2, 1), (3, 1), (4, 1)] := by kernel_rfl
theorem sz46 : sizeB Try.prog 46 = some 5 := by kernel_rfl
theorem ag47 : isAggB Try.prog 47 = true := by kernel_rfl
theorem fd47_0 : fieldB Try.prog 47 0 = some (0, 1) := by kernel_rfl
theorem fd47_1 : fieldB Try.prog 47 1 = some (1, 1) := by kernel_rfl
theorem fd47_2 : fieldB Try.prog 47 2 = some (2, 1) := by kernel_rfl
theorem eq47 : eqOkB Try.prog 47 3 = true := by kernel_rfl
theorem pl47 : placesB Try.prog 47 = some [(0, 1), (1, 1), (2, 1)] := by kernel_rfl
theorem sz47 : sizeB Try.prog 47 = some 3 := by kernel_rfl
theorem ag48 : isAggB Try.prog 48 = true := by kernel_rfl
theorem fd48_0 : fieldB Try.prog 48 0 = some (0, 1) := by kernel_rfl
theorem fd48_1 : fieldB Try.prog 48 1 = some (1, 1) := by kernel_rfl
theorem fd48_2 : fieldB Try.prog 48 2 = some (2, 1) := by kernel_rfl
theorem eq48 : eqOkB Try.prog 48 3 = true := by kernel_rfl
theorem pl48 : placesB Try.prog 48 = some [(0, 1), (1, 1), (2, 1)] := by kernel_rfl
theorem sz48 : sizeB Try.prog 48 = some 3 := by kernel_rfl
theorem na49 : isAggB Try.prog 49 = false := by kernel_rfl
theorem us49 : (Try.prog.underlying 49).isSome = true := by kernel_rfl
theorem sz49 : sizeB Try.prog 49 = some 1 := by kernel_rfl
theorem na51 : isAggB Try.prog 51 = false := by kernel_rfl
theorem us51 : (Try.prog.underlying 51).isSome = true := by kernel_rfl
theorem sz51 : sizeB Try.prog 51 = some 1 := by kernel_rfl
theorem na52 : isAggB Try.prog 52 = false := by kernel_rfl
theorem us52 : (Try.prog.underlying 52).isSome = true := by kernel_rfl
theorem sz52 : sizeB Try.prog 52 = some 1 := by kernel_rfl
theorem na53 : isAggB Try.prog 53 = false := by kernel_rfl
theorem us53 : (Try.prog.underlying 53).isSome = true := by kernel_rfl
theorem sz53 : sizeB Try.prog 53 = some 1 := by kernel_rfl
theorem na54 : isAggB Try.prog 54 = false := by kernel_rfl
theorem us54 : (Try.prog.underlying 54).isSome = true := by kernel_rfl
theorem sz54 : sizeB Try.prog 54 = some 1 := by kernel_rfl
theorem un54 : Try.prog.underlying 54 = some (.int .u64) := by kernel_rfl
theorem na55 : isAggB Try.prog 55 = false := by kernel_rfl
theorem us55 : (Try.prog.underlying 55).isSome = true := by kernel_rfl
theorem sz55 : sizeB Try.prog 55 = some 1 := by kernel_rfl
theorem na56 : isAggB Try.prog 56 = false := by kernel_rfl
theorem us56 : (Try.prog.underlying 56).isSome = true := by kernel_rfl
theorem sz56 : sizeB Try.prog 56 = some 1 := by kernel_rfl
theorem un56 : Try.prog.underlying 56 = some (.slice 55) := by kernel_rfl
theorem na57 : isAggB Try.prog 57 = false := by kernel_rfl
theorem us57 : (Try.prog.underlying 57).isSome = true := by kernel_rfl
theorem sz57 : sizeB Try.prog 57 = some 1 := by kernel_rfl
theorem na59 : isAggB Try.prog 59 = false := by kernel_rfl
theorem us59 : (Try.prog.underlying 59).isSome = true := by kernel_rfl
theorem sz59 : sizeB Try.prog 59 = some 1 := by kernel_rfl
theorem ag60 : isAggB Try.prog 60 = true := by kernel_rfl
theorem fd60_0 : fieldB Try.prog 60 0 = some (0, 1) := by kernel_rfl
theorem eq60 : eqOkB Try.prog 60 1 = true := by kernel_rfl
theorem pl60 : placesB Try.prog 60 = some [(0, 1)] := by kernel_rfl
theorem sz60 : sizeB Try.prog 60 = some 1 := by kernel_rfl
theorem ag61 : isAggB Try.prog 61 = true := by kernel_rfl
theorem fd61_0 : fieldB Try.prog 61 0 = some (0, 1) := by kernel_rfl
theorem eq61 : eqOkB Try.prog 61 1 = true := by kernel_rfl
theorem pl61 : placesB Try.prog 61 = some [(0, 1)] := by kernel_rfl
theorem sz61 : sizeB Try.prog 61 = some 1 := by kernel_rfl
theorem na62 : isAggB Try.prog 62 = false := by kernel_rfl
theorem us62 : (Try.prog.underlying 62).isSome = true := by kernel_rfl
theorem sz62 : sizeB Try.prog 62 = some 1 := by kernel_rfl
theorem na63 : isAggB Try.prog 63 = false := by kernel_rfl
theorem us63 : (Try.prog.underlying 63).isSome = true := by kernel_rfl
theorem sz63 : sizeB Try.prog 63 = some 1 := by kernel_rfl
theorem na64 : isAggB Try.prog 64 = false := by kernel_rfl
theorem us64 : (Try.prog.underlying 64).isSome = true := by kernel_rfl
theorem sz64 : sizeB Try.prog 64 = some 1 := by kernel_rfl
theorem na65 : isAggB Try.prog 65 = false := by kernel_rfl
theorem us65 : (Try.prog.underlying 65).isSome = true := by kernel_rfl
theorem sz65 : sizeB Try.prog 65 = some 1 := by kernel_rfl
theorem ag66 : isAggB Try.prog 66 = true := by kernel_rfl
theorem fd66_0 : fieldB Try.prog 66 0 = some (0, 1) := by kernel_rfl
theorem fd66_1 : fieldB Try.prog 66 1 = some (1, 1) := by kernel_rfl
theorem pl66 : placesB Try.prog 66 = some [(0, 1), (1, 1)] := by kernel_rfl
theorem sz66 : sizeB Try.prog 66 = some 2 := by kernel_rfl
theorem ag67 : isAggB Try.prog 67 = true := by kernel_rfl
theorem fd67_0 : fieldB Try.prog 67 0 = some (0, 1) := by kernel_rfl
theorem fd67_1 : fieldB Try.prog 67 1 = some (1, 1) := by kernel_rfl
theorem pl67 : placesB Try.prog 67 = some [(0, 1), (1, 1)] := by kernel_rfl
theorem sz67 : sizeB Try.prog 67 = some 2 := by kernel_rfl
theorem na68 : isAggB Try.prog 68 = false := by kernel_rfl
theorem us68 : (Try.prog.underlying 68).isSome = true := by kernel_rfl
theorem sz68 : sizeB Try.prog 68 = some 1 := by kernel_rfl
theorem na69 : isAggB Try.prog 69 = false := by kernel_rfl
theorem us69 : (Try.prog.underlying 69).isSome = true := by kernel_rfl
theorem sz69 : sizeB Try.prog 69 = some 1 := by kernel_rfl
theorem ag70 : isAggB Try.prog 70 = true := by kernel_rfl
theorem sz70 : sizeB Try.prog 70 = some 16 := by kernel_rfl
theorem un70 : Try.prog.underlying 70 = some (.array 16 3) := by kernel_rfl
theorem na72 : isAggB Try.prog 72 = false := by kernel_rfl
theorem us72 : (Try.prog.underlying 72).isSome = true := by kernel_rfl
theorem sz72 : sizeB Try.prog 72 = some 1 := by kernel_rfl
theorem na73 : isAggB Try.prog 73 = false := by kernel_rfl
theorem us73 : (Try.prog.underlying 73).isSome = true := by kernel_rfl
theorem sz73 : sizeB Try.prog 73 = some 1 := by kernel_rfl
theorem na74 : isAggB Try.prog 74 = false := by kernel_rfl
theorem us74 : (Try.prog.underlying 74).isSome = true := by kernel_rfl
theorem sz74 : sizeB Try.prog 74 = some 1 := by kernel_rfl
theorem na75 : isAggB Try.prog 75 = false := by kernel_rfl
theorem us75 : (Try.prog.underlying 75).isSome = true := by kernel_rfl
theorem sz75 : sizeB Try.prog 75 = some 1 := by kernel_rfl
theorem na76 : isAggB Try.prog 76 = false := by kernel_rfl
theorem us76 : (Try.prog.underlying 76).isSome = true := by kernel_rfl
theorem sz76 : sizeB Try.prog 76 = some 1 := by kernel_rfl
theorem na77 : isAggB Try.prog 77 = false := by kernel_rfl
theorem us77 : (Try.prog.underlying 77).isSome = true := by kernel_rfl
theorem sz77 : sizeB Try.prog 77 = some 1 := by kernel_rfl
theorem un77 : Try.prog.underlying 77 = some (.slice 78) := by kernel_rfl
theorem na78 : isAggB Try.prog 78 = false := by kernel_rfl
theorem us78 : (Try.prog.underlying 78).isSome = true := by kernel_rfl
theorem sz78 : sizeB Try.prog 78 = some 1 := by kernel_rfl
theorem un78 : Try.prog.underlying 78 = some (.int .u64) := by kernel_rfl
theorem na80 : isAggB Try.prog 80 = false := by kernel_rfl
theorem us80 : (Try.prog.underlying 80).isSome = true := by kernel_rfl
theorem sz80 : sizeB Try.prog 80 = some 1 := by kernel_rfl
theorem na81 : isAggB Try.prog 81 = false := by kernel_rfl
theorem us81 : (Try.prog.underlying 81).isSome = true := by kernel_rfl
theorem sz81 : sizeB Try.prog 81 = some 1 := by kernel_rfl
theorem na82 : isAggB Try.prog 82 = false := by kernel_rfl
theorem us82 : (Try.prog.underlying 82).isSome = true := by kernel_rfl
theorem sz82 : sizeB Try.prog 82 = some 1 := by kernel_rfl
theorem na83 : isAggB Try.prog 83 = false := by kernel_rfl
theorem us83 : (Try.prog.underlying 83).isSome = true := by kernel_rfl
theorem sz83 : sizeB Try.prog 83 = some 1 := by kernel_rfl
theorem na84 : isAggB Try.prog 84 = false := by kernel_rfl
theorem us84 : (Try.prog.underlying 84).isSome = true := by kernel_rfl
theorem sz84 : sizeB Try.prog 84 = some 1 := by kernel_rfl
theorem na85 : isAggB Try.prog 85 = false := by kernel_rfl
theorem us85 : (Try.prog.underlying 85).isSome = true := by kernel_rfl
theorem sz85 : sizeB Try.prog 85 = some 1 := by kernel_rfl
theorem na86 : isAggB Try.prog 86 = false := by kernel_rfl
theorem us86 : (Try.prog.underlying 86).isSome = true := by kernel_rfl
theorem sz86 : sizeB Try.prog 86 = some 1 := by kernel_rfl
theorem na88 : isAggB Try.prog 88 = false := by kernel_rfl
theorem us88 : (Try.prog.underlying 88).isSome = true := by kernel_rfl
theorem sz88 : sizeB Try.prog 88 = some 1 := by kernel_rfl
theorem na91 : isAggB Try.prog 91 = false := by kernel_rfl
theorem us91 : (Try.prog.underlying 91).isSome = true := by kernel_rfl
theorem sz91 : sizeB Try.prog 91 = some 1 := by kernel_rfl
theorem na92 : isAggB Try.prog 92 = false := by kernel_rfl
theorem us92 : (Try.prog.underlying 92).isSome = true := by kernel_rfl
theorem sz92 : sizeB Try.prog 92 = some 1 := by kernel_rfl
theorem na93 : isAggB Try.prog 93 = false := by kernel_rfl
theorem us93 : (Try.prog.underlying 93).isSome = true := by kernel_rfl
theorem sz93 : sizeB Try.prog 93 = some 1 := by kernel_rfl
theorem na94 : isAggB Try.prog 94 = false := by kernel_rfl
theorem us94 : (Try.prog.underlying 94).isSome = true := by kernel_rfl
theorem sz94 : sizeB Try.prog 94 = some 1 := by kernel_rfl
theorem na95 : isAggB Try.prog 95 = false := by kernel_rfl
theorem us95 : (Try.prog.underlying 95).isSome = true := by kernel_rfl
theorem sz95 : sizeB Try.prog 95 = some 1 := by kernel_rfl
theorem na96 : isAggB Try.prog 96 = false := by kernel_rfl
theorem us96 : (Try.prog.underlying 96).isSome = true := by kernel_rfl
theorem sz96 : sizeB Try.prog 96 = some 1 := by kernel_rfl
theorem un96 : Try.prog.underlying 96 = some (.int .i64) := by kernel_rfl
theorem na98 : isAggB Try.prog 98 = false := by kernel_rfl
theorem us98 : (Try.prog.underlying 98).isSome = true := by kernel_rfl
theorem sz98 : sizeB Try.prog 98 = some 1 := by kernel_rfl
theorem na99 : isAggB Try.prog 99 = false := by kernel_rfl
theorem us99 : (Try.prog.underlying 99).isSome = true := by kernel_rfl
theorem sz99 : sizeB Try.prog 99 = some 1 := by kernel_rfl
theorem na100 : isAggB Try.prog 100 = false := by kernel_rfl
theorem us100 : (Try.prog.underlying 100).isSome = true := by kernel_rfl
theorem sz100 : sizeB Try.prog 100 = some 1 := by kernel_rfl
theorem na102 : isAggB Try.prog 102 = false := by kernel_rfl
theorem us102 : (Try.prog.underlying 102).isSome = true := by kernel_rfl
theorem sz102 : sizeB Try.prog 102 = some 1 := by kernel_rfl
theorem na103 : isAggB Try.prog 103 = false := by kernel_rfl
theorem us103 : (Try.prog.underlying 103).isSome = true := by kernel_rfl
theorem sz103 : sizeB Try.prog 103 = some 1 := by kernel_rfl
theorem na104 : isAggB Try.prog 104 = false := by kernel_rfl
theorem us104 : (Try.prog.underlying 104).isSome = true := by kernel_rfl
theorem sz104 : sizeB Try.prog 104 = some 1 := by kernel_rfl
theorem un104 : Try.prog.underlying 104 = some (.int .u32) := by kernel_rfl
theorem na105 : isAggB Try.prog 105 = false := by kernel_rfl
theorem us105 : (Try.prog.underlying 105).isSome = true := by kernel_rfl
theorem sz105 : sizeB Try.prog 105 = some 1 := by kernel_rfl
theorem un105 : Try.prog.underlying 105 = some (.int .u64) := by kernel_rfl
theorem na106 : isAggB Try.prog 106 = false := by kernel_rfl
theorem us106 : (Try.prog.underlying 106).isSome = true := by kernel_rfl
theorem sz106 : sizeB Try.prog 106 = some 1 := by kernel_rfl
theorem na107 : isAggB Try.prog 107 = false := by kernel_rfl
theorem us107 : (Try.prog.underlying 107).isSome = true := by kernel_rfl
theorem sz107 : sizeB Try.prog 107 = some 1 := by kernel_rfl
theorem na108 : isAggB Try.prog 108 = false := by kernel_rfl
theorem us108 : (Try.prog.underlying 108).isSome = true := by kernel_rfl
theorem sz108 : sizeB Try.prog 108 = some 1 := by kernel_rfl
theorem na109 : isAggB Try.prog 109 = false := by kernel_rfl
theorem us109 : (Try.prog.underlying 109).isSome = true := by kernel_rfl
theorem sz109 : sizeB Try.prog 109 = some 1 := by kernel_rfl
theorem na110 : isAggB Try.prog 110 = false := by kernel_rfl
theorem us110 : (Try.prog.underlying 110).isSome = true := by kernel_rfl
theorem sz110 : sizeB Try.prog 110 = some 1 := by kernel_rfl
theorem na112 : isAggB Try.prog 112 = false := by kernel_rfl
theorem us112 : (Try.prog.underlying 112).isSome = true := by kernel_rfl
theorem sz112 : sizeB Try.prog 112 = some 1 := by kernel_rfl
theorem na113 : isAggB Try.prog 113 = false := by kernel_rfl
theorem us113 : (Try.prog.underlying 113).isSome = true := by kernel_rfl
theorem sz113 : sizeB Try.prog 113 = some 1 := by kernel_rfl
theorem na114 : isAggB Try.prog 114 = false := by kernel_rfl
theorem us114 : (Try.prog.underlying 114).isSome = true := by kernel_rfl
theorem sz114 : sizeB Try.prog 114 = some 1 := by kernel_rfl
theorem ag115 : isAggB Try.prog 115 = true := by kernel_rfl
theorem fd115_0 : fieldB Try.prog 115 0 = some (0, 1) := by kernel_rfl
theorem fd115_1 : fieldB Try.prog 115 1 = some (1, 1) := by kernel_rfl
theorem fd115_2 : fieldB Try.prog 115 2 = some (2, 1) := by kernel_rfl
theorem fd115_3 : fieldB Try.prog 115 3 = some (3, 1) := by kernel_rfl
theorem pl115 : placesB Try.prog 115 = some [(0, 1), (1, 1), (2, 1), (3, 1)] := by kernel_rfl
theorem sz115 : sizeB Try.prog 115 = some 4 := by kernel_rfl
theorem ag116 : isAggB Try.prog 116 = true := by kernel_rfl
theorem fd116_0 : fieldB Try.prog 116 0 = some (0, 1) := by kernel_rfl
theorem fd116_1 : fieldB Try.prog 116 1 = some (1, 1) := by kernel_rfl
theorem fd116_2 : fieldB Try.prog 116 2 = some (2, 1) := by kernel_rfl
theorem fd116_3 : fieldB Try.prog 116 3 = some (3, 1) := by kernel_rfl
theorem pl116 : placesB Try.prog 116 = some [(0, 1), (1, 1), (2, 1), (3, 1)] := by kernel_rfl
theorem sz116 : sizeB Try.prog 116 = some 4 := by kernel_rfl
theorem ag118 : isAggB Try.prog 118 = true := by kernel_rfl
theorem ag119 : isAggB Try.prog 119 = true := by kernel_rfl
theorem na120 : isAggB Try.prog 120 = false := by kernel_rfl
theorem us120 : (Try.prog.underlying 120).isSome = true := by kernel_rfl
theorem sz120 : sizeB Try.prog 120 = some 1 := by kernel_rfl
theorem un120 : Try.prog.underlying 120 = some (.int .u8) := by kernel_rfl
theorem na121 : isAggB Try.prog 121 = false := by kernel_rfl
theorem us121 : (Try.prog.underlying 121).isSome = true := by kernel_rfl
theorem sz121 : sizeB Try.prog 121 = some 1 := by kernel_rfl
theorem un121 : Try.prog.underlying 121 = some (.int .u8) := by kernel_rfl
theorem na122 : isAggB Try.prog 122 = false := by kernel_rfl
theorem us122 : (Try.prog.underlying 122).isSome = true := by kernel_rfl
theorem sz122 : sizeB Try.prog 122 = some 1 := by kernel_rfl
theorem na123 : isAggB Try.prog 123 = false := by kernel_rfl
theorem us123 : (Try.prog.underlying 123).isSome = true := by kernel_rfl
theorem sz123 : sizeB Try.prog 123 = some 1 := by kernel_rfl
theorem na124 : isAggB Try.prog 124 = false := by kernel_rfl
theorem us124 : (Try.prog.underlying 124).isSome = true := by kernel_rfl
theorem sz124 : sizeB Try.prog 124 = some 1 := by kernel_rfl
theorem un124 : Try.prog.underlying 124 = some (.int .i32) := by kernel_rfl
theorem na125 : isAggB Try.prog 125 = false := by kernel_rfl
theorem us125 : (Try.prog.underlying 125).isSome = true := by kernel_rfl
theorem sz125 : sizeB Try.prog 125 = some 1 := by kernel_rfl
theorem un125 : Try.prog.underlying 125 = some (.int .i32) := by kernel_rfl
theorem ag126 : isAggB Try.prog 126 = true := by kernel_rfl
theorem fd126_0 : fieldB Try.prog 126 0 = some (0, 1) := by kernel_rfl
theorem fd126_1 : fieldB Try.prog 126 1 = some (1, 1) := by kernel_rfl
theorem fd126_2 : fieldB Try.prog 126 2 = some (2, 1) := by kernel_rfl
theorem fd126_3 : fieldB Try.prog 126 3 = some (3, 1) := by kernel_rfl
theorem fd126_4 : fieldB Try.prog 126 4 = some (4, 1) := by kernel_rfl
theorem fd126_5 : fieldB Try.prog 126 5 = some (5, 1) := by kernel_rfl
theorem fd126_6 : fieldB Try.prog 126 6 = some (6, 1) := by kernel_rfl
theorem fd126_7 : fieldB Try.prog 126 7 = some (7, 1) := by kernel_rfl
theorem fd126_8 : fieldB Try.prog 126 8 = some (8, 1) := by kernel_rfl
theorem fd126_9 : fieldB Try.prog 126 9 = some (9, 1) := by kernel_rfl
theorem fd126_10 : fieldB Try.prog 126 10 = some (10, 1) := by kernel_rfl
theorem pl126 : placesB Try.prog 126 = some [(0, 1), (1, 1), (2, 1), (3, 1), (4, 1), (5, 1), (6, 1), (7, 1), (8, 1), (9, 1), (10, 1)] := by kernel_rfl
theorem sz126 : sizeB Try.prog 126 = some 11 := by kernel_rfl
theorem ag127 : isAggB Try.prog 127 = true := by kernel_rfl
theorem fd127_0 : fieldB Try.prog 127 0 = some (0, 1) := by kernel_rfl
theorem fd127_1 : fieldB Try.prog 127 1 = some (1, 1) := by kernel_rfl
theorem fd127_2 : fieldB Try.prog 127 2 = some (2, 1) := by kernel_rfl
theorem fd127_3 : fieldB Try.prog 127 3 = some (3, 1) := by kernel_rfl
theorem fd127_4 : fieldB Try.prog 127 4 = some (4, 1) := by kernel_rfl
theorem fd127_5 : fieldB Try.prog 127 5 = some (5, 1) := by kernel_rfl
theorem fd127_6 : fieldB Try.prog 127 6 = some (6, 1) := by kernel_rfl
theorem fd127_7 : fieldB Try.prog 127 7 = some (7, 1) := by kernel_rfl
theorem fd127_8 : fieldB Try.prog 127 8 = some (8, 1) := by kernel_rfl
theorem fd127_9 : fieldB Try.prog 127 9 = some (9, 1) := by kernel_rfl
theorem fd127_10 : fieldB Try.prog 127 10 = some (10, 1) := by kernel_rfl
theorem pl127 : placesB Try.prog 127 = some [(0, 1), (1, 1), (2, 1), (3, 1), (4, 1), (5, 1), (6, 1), (7, 1), (8, 1), (9, 1), (10, 1)] := by kernel_rfl
theorem sz127 : sizeB Try.prog 127 = some 11 := by kernel_rfl
theorem ag128 : isAggB Try.prog 128 = true := by kernel_rfl
theorem fd128_0 : fieldB Try.prog 128 0 = some (0, 1) := by kernel_rfl
theorem pl128 : placesB Try.prog 128 = some [(0, 1)] := by kernel_rfl
theorem sz128 : sizeB Try.prog 128 = some 1 := by kernel_rfl
theorem ag129 : isAggB Try.prog 129 = true := by kernel_rfl
theorem fd129_0 : fieldB Try.prog 129 0 = some (0, 1) := by kernel_rfl
theorem pl129 : placesB Try.prog 129 = some [(0, 1)] := by kernel_rfl
theorem sz129 : sizeB Try.prog 129 = some 1 := by kernel_rfl
theorem in2 : (Try.prog.info? 2).map (fun i => (i.zero, i.size, i.bytes)) = some (some (.int .i64 0), 1, 8) := by kernel_rfl
theorem zr2 : zeroB Try.prog 2 = some (.int .i64 0) := by kernel_rfl
theorem in3 : (Try.prog.info? 3).map (fun i => (i.zero, i.size, i.bytes)) = some (some (.int .i64 0), 1, 8) := by kernel_rfl
theorem zr3 : zeroB Try.prog 3 = some (.int .i64 0) := by kernel_rfl
theorem in4 : (Try.prog.info? 4).map (fun i => (i.zero, i.size, i.bytes)) = some (some (.bool false), 1, 1) := by kernel_rfl
theorem zr4 : zeroB Try.prog 4 = some (.bool false) := by kernel_rfl
theorem un4 : Try.prog.underlying 4 = some .bool := by kernel_rfl
theorem in5 : (Try.prog.info? 5).map (fun i => (i.zero, i.size, i.bytes)) = some (some (.int .u8 0), 1, 1) := by kernel_rfl
theorem zr5 : zeroB Try.prog 5 = some (.int .u8 0) := by kernel_rfl
theorem in6 : (Try.prog.info? 6).map (fun i => (i.zero, i.size, i.bytes)) = some (some (.int .u8 0), 1, 1) := by kernel_rfl
theorem zr6 : zeroB Try.prog 6 = some (.int .u8 0) := by kernel_rfl
theorem in7 : (Try.prog.info? 7).map (fun i => (i.zero, i.size, i.bytes)) = some (some (.agg #[.int .i64 0, .int .i64 0, .bool false, .int .u8 0]), 4, 24) := by kernel_rfl
theorem zr7 : zeroB Try.prog 7 = some (.agg #[.int .i64 0, .int .i64 0, .bool false, .int .u8 0]) := by kernel_rfl
theorem in8 : (Try.prog.info? 8).map (fun i => (i.zero, i.size, i.bytes)) = some (some (.agg #[.int .i64 0, .int .i64 0, .bool false, .int .u8 0]), 4, 24) := by kernel_rfl
theorem zr8 : zeroB Try.prog 8 = some (.agg #[.int .i64 0, .int .i64 0, .bool false, .int .u8 0]) := by kernel_rfl
theorem in12 : (Try.prog.info? 12).map (fun i => (i.zero, i.size, i.bytes)) = some (some (.int .u64 0), 1, 8) := by kernel_rfl
theorem zr12 : zeroB Try.prog 12 = some (.int .u64 0) := by kernel_rfl
theorem in15 : (Try.prog.info? 15).map (fun i => (i.zero, i.size, i.bytes)) = some (some (.pointer none), 1, 8) := by kernel_rfl
theorem zr15 : zeroB Try.prog 15 = some (.pointer none) := by kernel_rfl
theorem in16 : (Try.prog.info? 16).map (fun i => (i.zero, i.size, i.bytes)) = some (some (.pointer none), 1, 8) := by kernel_rfl
theorem zr16 : zeroB Try.prog 16 = some (.pointer none) := by kernel_rfl
theorem in17 : (Try.prog.info? 17).map (fun i => (i.zero, i.size, i.bytes)) = some (some (.pointer none), 1, 8) := by kernel_rfl
theorem zr17 : zeroB Try.prog 17 = some (.pointer none) := by kernel_rfl
theorem in18 : (Try.prog.info? 18).map (fun i => (i.zero, i.size, i.bytes)) = some (some (.agg #[.pointer none]), 1, 8) := by kernel_rfl
theorem zr18 : zeroB Try.prog 18 = some (.agg #[.pointer none]) := by kernel_rfl
theorem in19 : (Try.prog.info? 19).map (fun i => (i.zero, i.size, i.bytes)) = some (some (.agg #[.pointer none]), 1, 8) := by kernel_rfl
theorem zr19 : zeroB Try.prog 19 = some (.agg #[.pointer none]) := by kernel_rfl
theorem in21 : (Try.prog.info? 21).map (fun i => (i.zero, i.size, i.bytes)) = some (some (.int .i32 0), 1, 4) := by kernel_rfl
theorem zr21 : zeroB Try.prog 21 = some (.int .i32 0) := by kernel_rfl
theorem in22 : (Try.prog.info? 22).map (fun i => (i.zero, i.size, i.bytes)) = some (some (.slice none 0 0), 1, 24) := by kernel_rfl
theorem zr22 : zeroB Try.prog 22 = some (.slice none 0 0) := by kernel_rfl
theorem in24 : (Try.prog.info? 24).map (fun i => (i.zero, i.size, i.bytes)) = some (some (.int .i64 0), 1, 8) := by kernel_rfl
theorem zr24 : zeroB Try.prog 24 = some (.int .i64 0) := by kernel_rfl
theorem in27 : (Try.prog.info? 27).map (fun i => (i.zero, i.size, i.bytes)) = some (some (.pointer none), 1, 8) := by kernel_rfl
theorem zr27 : zeroB Try.prog 27 = some (.pointer none) := by kernel_rfl
theorem in36 : (Try.prog.info? 36).map (fun i => (i.zero, i.size, i.bytes)) = some (some (.slice none 0 0), 1, 24) := by kernel_rfl
theorem zr36 : zeroB Try.prog 36 = some (.slice none 0 0) := by kernel_rfl
theorem in39 : (Try.prog.info? 39).map (fun i => (i.zero, i.size, i.bytes)) = some (some (.slice none 0 0), 1, 24) := by kernel_rfl
theorem zr39 : zeroB Try.prog 39 = some (.slice none 0 0) := by kernel_rfl
theorem in45 : (Try.prog.info? 45).map (fun i => (i.zero, i.size, i.bytes)) = some (some (.agg #[.int .i64 0, .int .i64 0, .int .i64 0, .int .i64 0, .int .i64 0]), 5, 40) := by kernel_rfl
theorem zr45 : zeroB Try.prog 45 = some (.agg #[.int .i64 0, .int .i64 0, .int .i64 0, .int .i64 0, .int .i64 0]) := by kernel_rfl
theorem in46 : (Try.prog.info? 46).map (fun i => (i.zero, i.size, i.bytes)) = some (some (.agg #[.int .i64 0, .int .i64 0, .int .i64 0, .int .i64 0, .int .i64 0]), 5, 40) := by kernel_rfl
theorem zr46 : zeroB Try.prog 46 = some (.agg #[.int .i64 0, .int .i64 0, .int .i64 0, .int .i64 0, .int .i64 0]) := by kernel_rfl
theorem in47 : (Try.prog.info? 47).map (fun i => (i.zero, i.size, i.bytes)) = some (some (.agg #[.int .i64 0, .int .i64 0, .int .i64 0]), 3, 24) := by kernel_rfl
theorem zr47 : zeroB Try.prog 47 = some (.agg #[.int .i64 0, .int .i64 0, .int .i64 0]) := by kernel_rfl
theorem in48 : (Try.prog.info? 48).map (fun i => (i.zero, i.size, i.bytes)) = some (some (.agg #[.int .i64 0, .int .i64 0, .int .i64 0]), 3, 24) := by kernel_rfl
theorem zr48 : zeroB Try.prog 48 = some (.agg #[.int .i64 0, .int .i64 0, .int .i64 0]) := by kernel_rfl
theorem in53 : (Try.prog.info? 53).map (fun i => (i.zero, i.size, i.bytes)) = some (some (.pointer none), 1, 8) := by kernel_rfl
theorem zr53 : zeroB Try.prog 53 = some (.pointer none) := by kernel_rfl
theorem in54 : (Try.prog.info? 54).map (fun i => (i.zero, i.size, i.bytes)) = some (some (.int .u64 0), 1, 8) := by kernel_rfl
theorem zr54 : zeroB Try.prog 54 = some (.int .u64 0) := by kernel_rfl
theorem in55 : (Try.prog.info? 55).map (fun i => (i.zero, i.size, i.bytes)) = some (some (.pointer none), 1, 8) := by kernel_rfl
theorem zr55 : zeroB Try.prog 55 = some (.pointer none) := by kernel_rfl
theorem in56 : (Try.prog.info? 56).map (fun i => (i.zero, i.size, i.bytes)) = some (some (.slice none 0 0), 1, 24) := by kernel_rfl
theorem zr56 : zeroB Try.prog 56 = some (.slice none 0 0) := by kernel_rfl
theorem in60 : (Try.prog.info? 60).map (fun i => (i.zero, i.size, i.bytes)) = some (some (.agg #[.int .i64 0]), 1, 8) := by kernel_rfl
theorem zr60 : zeroB Try.prog 60 = some (.agg #[.int .i64 0]) := by kernel_rfl
theorem in61 : (Try.prog.info? 61).map (fun i => (i.zero, i.size, i.bytes)) = some (some (.agg #[.int .i64 0]), 1, 8) := by kernel_rfl
theorem zr61 : zeroB Try.prog 61 = some (.agg #[.int .i64 0]) := by kernel_rfl
theorem in66 : (Try.prog.info? 66).map (fun i => (i.zero, i.size, i.bytes)) = some (some (.agg #[.slice none 0 0, .int .i64 0]), 2, 32) := by kernel_rfl
theorem zr66 : zeroB Try.prog 66 = some (.agg #[.slice none 0 0, .int .i64 0]) := by kernel_rfl
theorem in67 : (Try.prog.info? 67).map (fun i => (i.zero, i.size, i.bytes)) = some (some (.agg #[.slice none 0 0, .int .i64 0]), 2, 32) := by kernel_rfl
theorem zr67 : zeroB Try.prog 67 = some (.agg #[.slice none 0 0, .int .i64 0]) := by kernel_rfl
theorem in70 : (Try.prog.info? 70).map (fun i => (i.zero, i.size, i.bytes)) = some (some (.agg #[.int .i64 0, .int .i64 0, .int .i64 0, .int .i64 0, .int .i64 0, .int .i64 0, .int .i64 0, .int .i64 0, .int .i64 0, .int .i64 0, .int .i64 0, .int .i64 0, .int .i64 0, .int .i64 0, .int .i64 0, .int .i64 0]), 16, 128) := by kernel_rfl
theorem zr70 : zeroB Try.prog 70 = some (.agg #[.int .i64 0, .int .i64 0, .int .i64 0, .int .i64 0, .int .i64 0, .int .i64 0, .int .i64 0, .int .i64 0, .int .i64 0, .int .i64 0, .int .i64 0, .int .i64 0, .int .i64 0, .int .i64 0, .int .i64 0, .int .i64 0]) := by kernel_rfl
theorem in74 : (Try.prog.info? 74).map (fun i => (i.zero, i.size, i.bytes)) = some (some (.pointer none), 1, 8) := by kernel_rfl
theorem zr74 : zeroB Try.prog 74 = some (.pointer none) := by kernel_rfl
theorem in77 : (Try.prog.info? 77).map (fun i => (i.zero, i.size, i.bytes)) = some (some (.slice none 0 0), 1, 24) := by kernel_rfl
theorem zr77 : zeroB Try.prog 77 = some (.slice none 0 0) := by kernel_rfl
theorem in78 : (Try.prog.info? 78).map (fun i => (i.zero, i.size, i.bytes)) = some (some (.int .u64 0), 1, 8) := by kernel_rfl
theorem zr78 : zeroB Try.prog 78 = some (.int .u64 0) := by kernel_rfl
theorem in96 : (Try.prog.info? 96).map (fun i => (i.zero, i.size, i.bytes)) = some (some (.int .i64 0), 1, 8) := by kernel_rfl
theorem zr96 : zeroB Try.prog 96 = some (.int .i64 0) := by kernel_rfl
theorem in104 : (Try.prog.info? 104).map (fun i => (i.zero, i.size, i.bytes)) = some (some (.int .u32 0), 1, 4) := by kernel_rfl
theorem zr104 : zeroB Try.prog 104 = some (.int .u32 0) := by kernel_rfl
theorem in105 : (Try.prog.info? 105).map (fun i => (i.zero, i.size, i.bytes)) = some (some (.int .u64 0), 1, 8) := by kernel_rfl
theorem zr105 : zeroB Try.prog 105 = some (.int .u64 0) := by kernel_rfl
theorem in110 : (Try.prog.info? 110).map (fun i => (i.zero, i.size, i.bytes)) = some (some (.pointer none), 1, 8) := by kernel_rfl
theorem zr110 : zeroB Try.prog 110 = some (.pointer none) := by kernel_rfl
theorem in113 : (Try.prog.info? 113).map (fun i => (i.zero, i.size, i.bytes)) = some (some (.pointer none), 1, 8) := by kernel_rfl
theorem zr113 : zeroB Try.prog 113 = some (.pointer none) := by kernel_rfl
theorem in120 : (Try.prog.info? 120).map (fun i => (i.zero, i.size, i.bytes)) = some (some (.int .u8 0), 1, 1) := by kernel_rfl
theorem zr120 : zeroB Try.prog 120 = some (.int .u8 0) := by kernel_rfl
theorem in121 : (Try.prog.info? 121).map (fun i => (i.zero, i.size, i.bytes)) = some (some (.int .u8 0), 1, 1) := by kernel_rfl
theorem zr121 : zeroB Try.prog 121 = some (.int .u8 0) := by kernel_rfl
theorem in123 : (Try.prog.info? 123).map (fun i => (i.zero, i.size, i.bytes)) = some (some (.pointer none), 1, 8) := by kernel_rfl
theorem zr123 : zeroB Try.prog 123 = some (.pointer none) := by kernel_rfl
theorem in124 : (Try.prog.info? 124).map (fun i => (i.zero, i.size, i.bytes)) = some (some (.int .i32 0), 1, 4) := by kernel_rfl
theorem zr124 : zeroB Try.prog 124 = some (.int .i32 0) := by kernel_rfl
theorem in125 : (Try.prog.info? 125).map (fun i => (i.zero, i.size, i.bytes)) = some (some (.int .i32 0), 1, 4) := by kernel_rfl
theorem zr125 : zeroB Try.prog 125 = some (.int .i32 0) := by kernel_rfl
theorem mixed : Try.prog.follows .mixedOrders = true := by kernel_rfl
end Go.Proofs.Ytoodneljjhbfhaa
