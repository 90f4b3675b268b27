/- Closed facts on the types of this translation, each reckoned by the kernel. Written by a small program. -/
import Derived.Test.YtdenliplkmjmjaaKDet
import Derived.Test.YtdenliplkmjmjaaRows
import Derived.KernelRfl
namespace Go.Proofs.Ytdenliplkmjmjaa
theorem na1 : isAggB Try.prog 1 = false := by kernel_rfl
theorem us1 : (Try.prog.underlying 1).isSome = true := by kernel_rfl
theorem sz1 : sizeB Try.prog 1 = some 1 := by kernel_rfl
theorem na2 : isAggB Try.prog 2 = false := by kernel_rfl
theorem us2 : (Try.prog.underlying 2).isSome = true := by kernel_rfl
theorem sz2 : sizeB Try.prog 2 = some 1 := by kernel_rfl
theorem un2 : Try.prog.underlying 2 = some (.int .i64) := by kernel_rfl
theorem na3 : isAggB Try.prog 3 = false := by kernel_rfl
theorem us3 : (Try.prog.underlying 3).isSome = true := by kernel_rfl
theorem sz3 : sizeB Try.prog 3 = some 1 := by kernel_rfl
theorem un3 : Try.prog.underlying 3 = some (.int .i64) := by kernel_rfl
theorem na4 : isAggB Try.prog 4 = false := by kernel_rfl
theorem us4 : (Try.prog.underlying 4).isSome = true := by kernel_rfl
theorem sz4 : sizeB Try.prog 4 = some 1 := by kernel_rfl
theorem na5 : isAggB Try.prog 5 = false := by kernel_rfl
theorem us5 : (Try.prog.underlying 5).isSome = true := by kernel_rfl
theorem sz5 : sizeB Try.prog 5 = some 1 := by kernel_rfl
theorem un5 : Try.prog.underlying 5 = some (.int .u8) := by kernel_rfl
theorem na6 : isAggB Try.prog 6 = false := by kernel_rfl
theorem us6 : (Try.prog.underlying 6).isSome = true := by kernel_rfl
theorem sz6 : sizeB Try.prog 6 = some 1 := by kernel_rfl
theorem un6 : Try.prog.underlying 6 = some (.int .u8) := by kernel_rfl
theorem ag7 : isAggB Try.prog 7 = true := by kernel_rfl
theorem fd7_0 : fieldB Try.prog 7 0 = some (0, 1) := by kernel_rfl
theorem fd7_1 : fieldB Try.prog 7 1 = some (1, 1) := by kernel_rfl
theorem fd7_2 : fieldB Try.prog 7 2 = some (2, 1) := by kernel_rfl
theorem fd7_3 : fieldB Try.prog 7 3 = some (3, 1) := by kernel_rfl
theorem pl7 : placesB Try.prog 7 = some [(0, 1), (1, 1), (2, 1), (3, 1)] := by kernel_rfl
theorem sz7 : sizeB Try.prog 7 = some 4 := by kernel_rfl
theorem ag8 : isAggB Try.prog 8 = true := by kernel_rfl
theorem fd8_0 : fieldB Try.prog 8 0 = some (0, 1) := by kernel_rfl
theorem fd8_1 : fieldB Try.prog 8 1 = some (1, 1) := by kernel_rfl
theorem fd8_2 : fieldB Try.prog 8 2 = some (2, 1) := by kernel_rfl
theorem fd8_3 : fieldB Try.prog 8 3 = some (3, 1) := by kernel_rfl
theorem pl8 : placesB Try.prog 8 = some [(0, 1), (1, 1), (2, 1), (3, 1)] := by kernel_rfl
theorem sz8 : sizeB Try.prog 8 = some 4 := by kernel_rfl
theorem na9 : isAggB Try.prog 9 = false := by kernel_rfl
theorem us9 : (Try.prog.underlying 9).isSome = true := by kernel_rfl
theorem sz9 : sizeB Try.prog 9 = some 1 := by kernel_rfl
theorem na10 : isAggB Try.prog 10 = false := by kernel_rfl
theorem us10 : (Try.prog.underlying 10).isSome = true := by kernel_rfl
theorem sz10 : sizeB Try.prog 10 = some 1 := by kernel_rfl
theorem na11 : isAggB Try.prog 11 = false := by kernel_rfl
theorem us11 : (Try.prog.underlying 11).isSome = true := by kernel_rfl
theorem sz11 : sizeB Try.prog 11 = some 1 := by kernel_rfl
theorem na12 : isAggB Try.prog 12 = false := by kernel_rfl
theorem us12 : (Try.prog.underlying 12).isSome = true := by kernel_rfl
theorem sz12 : sizeB Try.prog 12 = some 1 := by kernel_rfl
theorem un12 : Try.prog.underlying 12 = some (.int .u64) := by kernel_rfl
theorem ag13 : isAggB Try.prog 13 = true := by kernel_rfl
theorem fd13_0 : fieldB Try.prog 13 0 = some (0, 1) := by kernel_rfl
theorem fd13_1 : fieldB Try.prog 13 1 = some (1, 1) := by kernel_rfl
theorem pl13 : placesB Try.prog 13 = some [(0, 1), (1, 1)] := by kernel_rfl
theorem sz13 : sizeB Try.prog 13 = some 2 := by kernel_rfl
theorem ag14 : isAggB Try.prog 14 = true := by kernel_rfl
theorem fd14_0 : fieldB Try.prog 14 0 = some (0, 1) := by kernel_rfl
theorem fd14_1 : fieldB Try.prog 14 1 = some (1, 1) := by kernel_rfl
theorem pl14 : placesB Try.prog 14 = some [(0, 1), (1, 1)] := by kernel_rfl
theorem sz14 : sizeB Try.prog 14 = some 2 := by kernel_rfl
theorem na15 : isAggB Try.prog 15 = false := by kernel_rfl
theorem us15 : (Try.prog.underlying 15).isSome = true := by kernel_rfl
theorem sz15 : sizeB Try.prog 15 = some 1 := by kernel_rfl
theorem na16 : isAggB Try.prog 16 = false := by kernel_rfl
theorem us16 : (Try.prog.underlying 16).isSome = true := by kernel_rfl
theorem sz16 : sizeB Try.prog 16 = some 1 := by kernel_rfl
theorem na17 : isAggB Try.prog 17 = false := by kernel_rfl
theorem us17 : (Try.prog.underlying 17).isSome = true := by kernel_rfl
theorem sz17 : sizeB Try.prog 17 = some 1 := by kernel_rfl
theorem ag18 : isAggB Try.prog 18 = true := by kernel_rfl
theorem fd18_0 : fieldB Try.prog 18 0 = some (0, 1) := by kernel_rfl
theorem pl18 : placesB Try.prog 18 = some [(0, 1)] := by kernel_rfl
theorem sz18 : sizeB Try.prog 18 = some 1 := by kernel_rfl
theorem ag19 : isAggB Try.prog 19 = true := by kernel_rfl
theorem fd19_0 : fieldB Try.prog 19 0 = some (0, 1) := by kernel_rfl
theorem pl19 : placesB Try.prog 19 = some [(0, 1)] := by kernel_rfl
theorem sz19 : sizeB Try.prog 19 = some 1 := by kernel_rfl
theorem na21 : isAggB Try.prog 21 = false := by kernel_rfl
theorem us21 : (Try.prog.underlying 21).isSome = true := by kernel_rfl
theorem sz21 : sizeB Try.prog 21 = some 1 := by kernel_rfl
theorem un21 : Try.prog.underlying 21 = some (.int .i32) := by kernel_rfl
theorem na22 : isAggB Try.prog 22 = false := by kernel_rfl
theorem us22 : (Try.prog.underlying 22).isSome = true := by kernel_rfl
theorem sz22 : sizeB Try.prog 22 = some 1 := by kernel_rfl
theorem un22 : Try.prog.underlying 22 = some (.slice 3) := by kernel_rfl
theorem na23 : isAggB Try.prog 23 = false := by kernel_rfl
theorem us23 : (Try.prog.underlying 23).isSome = true := by kernel_rfl
theorem sz23 : sizeB Try.prog 23 = some 1 := by kernel_rfl
theorem un23 : Try.prog.underlying 23 = some (.slice 61) := by kernel_rfl
theorem ag24 : isAggB Try.prog 24 = true := by kernel_rfl
theorem fd24_0 : fieldB Try.prog 24 0 = some (0, 1) := by kernel_rfl
theorem fd24_1 : fieldB Try.prog 24 1 = some (1, 1) := by kernel_rfl
theorem pl24 : placesB Try.prog 24 = some [(0, 1), (1, 1)] := by kernel_rfl
theorem sz24 : sizeB Try.prog 24 = some 2 := by kernel_rfl
theorem ag25 : isAggB Try.prog 25 = true := by kernel_rfl
theorem fd25_0 : fieldB Try.prog 25 0 = some (0, 1) := by kernel_rfl
theorem fd25_1 : fieldB Try.prog 25 1 = some (1, 1) := by kernel_rfl
theorem pl25 : placesB Try.prog 25 = some [(0, 1), (1, 1)] := by kernel_rfl
theorem sz25 : sizeB Try.prog 25 = some 2 := by kernel_rfl
theorem na26 : isAggB Try.prog 26 = false := by kernel_rfl
theorem us26 : (Try.prog.underlying 26).isSome = true := by kernel_rfl
theorem sz26 : sizeB Try.prog 26 = some 1 := by kernel_rfl
theorem na27 : isAggB Try.prog 27 = false := by kernel_rfl
theorem us27 : (Try.prog.underlying 27).isSome = true := by kernel_rfl
theorem sz27 : sizeB Try.prog 27 = some 1 := by kernel_rfl
theorem na28 : isAggB Try.prog 28 = false := by kernel_rfl
theorem us28 : (Try.prog.underlying 28).isSome = true := by kernel_rfl
theorem sz28 : sizeB Try.prog 28 = some 1 := by kernel_rfl
theorem na29 : isAggB Try.prog 29 = false := by kernel_rfl
theorem us29 : (Try.prog.underlying 29).isSome = true := by kernel_rfl
theorem sz29 : sizeB Try.prog 29 = some 1 := by kernel_rfl
theorem un29 : Try.prog.underlying 29 = some (.slice 43) := by kernel_rfl
theorem na30 : isAggB Try.prog 30 = false := by kernel_rfl
theorem us30 : (Try.prog.underlying 30).isSome = true := by kernel_rfl
theorem sz30 : sizeB Try.prog 30 = some 1 := by kernel_rfl
theorem na31 : isAggB Try.prog 31 = false := by kernel_rfl
theorem us31 : (Try.prog.underlying 31).isSome = true := by kernel_rfl
theorem sz31 : sizeB Try.prog 31 = some 1 := by kernel_rfl
theorem un31 : Try.prog.underlying 31 = some (.int .i64) := by kernel_rfl
theorem na33 : isAggB Try.prog 33 = false := by kernel_rfl
theorem us33 : (Try.prog.underlying 33).isSome = true := by kernel_rfl
theorem sz33 : sizeB Try.prog 33 = some 1 := by kernel_rfl
theorem na34 : isAggB Try.prog 34 = false := by kernel_rfl
theorem us34 : (Try.prog.underlying 34).isSome = true := by kernel_rfl
theorem sz34 : sizeB Try.prog 34 = some 1 := by kernel_rfl
theorem na35 : isAggB Try.prog 35 = false := by kernel_rfl
theorem us35 : (Try.prog.underlying 35).isSome = true := by kernel_rfl
theorem sz35 : sizeB Try.prog 35 = some 1 := by kernel_rfl
theorem na36 : isAggB Try.prog 36 = false := by kernel_rfl
theorem us36 : (Try.prog.underlying 36).isSome = true := by kernel_rfl
theorem sz36 : sizeB Try.prog 36 = some 1 := by kernel_rfl
theorem na37 : isAggB Try.prog 37 = false := by kernel_rfl
theorem us37 : (Try.prog.underlying 37).isSome = true := by kernel_rfl
theorem sz37 : sizeB Try.prog 37 = some 1 := by kernel_rfl
theorem na38 : isAggB Try.prog 38 = false := by kernel_rfl
theorem us38 : (Try.prog.underlying 38).isSome = true := by kernel_rfl
theorem sz38 : sizeB Try.prog 38 = some 1 := by kernel_rfl
theorem un38 : Try.prog.underlying 38 = some (.int .u16) := by kernel_rfl
theorem na40 : isAggB Try.prog 40 = false := by kernel_rfl
theorem us40 : (Try.prog.underlying 40).isSome = true := by kernel_rfl
theorem sz40 : sizeB Try.prog 40 = some 1 := by kernel_rfl
theorem na41 : isAggB Try.prog 41 = false := by kernel_rfl
theorem us41 : (Try.prog.underlying 41).isSome = true := by kernel_rfl
theorem sz41 : sizeB Try.prog 41 = some 1 := by kernel_rfl
theorem ag42 : isAggB Try.prog 42 = true := by kernel_rfl
theorem fd42_0 : fieldB Try.prog 42 0 = some (0, 1) := by kernel_rfl
theorem fd42_1 : fieldB Try.prog 42 1 = some (1, 1) := by kernel_rfl
theorem fd42_2 : fieldB Try.prog 42 2 = some (2, 1) := by kernel_rfl
theorem fd42_3 : fieldB Try.prog 42 3 = some (3, 1) := by kernel_rfl
theorem fd42_4 : fieldB Try.prog 42 4 = some (4, 1) := by kernel_rfl
theorem eq42 : eqOkB Try.prog 42 5 = true := by kernel_rfl
theorem pl42 : placesB Try.prog 42 = some [(0, 1), (1, 1), (2, 1), (3, 1), (4, 1)] := by kernel_rfl
theorem sz42 : sizeB Try.prog 42 = some 5 := by kernel_rfl
theorem ag43 : isAggB Try.prog 43 = true := by kernel_rfl
theorem fd43_0 : fieldB Try.prog 43 0 = some (0, 1) := by kernel_rfl
theorem fd43_1 : fieldB Try.prog 43 1 = some (1, 1) := by kernel_rfl
theorem fd43_2 : fieldB Try.prog 43 2 = some (2, 1) := by kernel_rfl
theorem fd43_3 : fieldB Try.prog 43 3 = some (3, 1) := by kernel_rfl
theorem fd43_4 : fieldB Try.prog 43 4 = some (4, 1) := by kernel_rfl
theorem eq43 : eqOkB Try.prog 43 5 = true := by kernel_rfl
theorem pl43 : placesB Try.prog 43 = some [(0, 1), (1, 1), (2, 1), (3, 1), (4, 1)] := by kernel_rfl
theorem sz43 : sizeB Try.prog 43 = some 5 := by kernel_rfl
theorem na44 : isAggB Try.prog 44 = false := by kernel_rfl
theorem us44 : (Try.prog.underlying 44).isSome = true := by kernel_rfl
theorem sz44 : sizeB Try.prog 44 = some 1 := by kernel_rfl
theorem na45 : isAggB Try.prog 45 = false := by kernel_rfl
theorem us45 : (Try.prog.underlying 45).isSome = true := by kernel_rfl
theorem sz45 : sizeB Try.prog 45 = some 1 := by kernel_rfl
theorem na46 : isAggB Try.prog 46 = false := by kernel_rfl
theorem us46 : (Try.prog.underlying 46).isSome = true := by kernel_rfl
theorem sz46 : sizeB Try.prog 46 = some 1 := by kernel_rfl
theorem na48 : isAggB Try.prog 48 = false := by kernel_rfl
theorem us48 : (Try.prog.underlying 48).isSome = true := by kernel_rfl
theorem sz48 : sizeB Try.prog 48 = some 1 := by kernel_rfl
theorem na49 : isAggB Try.prog 49 = false := by kernel_rfl
theorem us49 : (Try.prog.underlying 49).isSome = true := by kernel_rfl
theorem sz49 : sizeB Try.prog 49 = some 1 := by kernel_rfl
theorem na50 : isAggB Try.prog 50 = false := by kernel_rfl
theorem us50 : (Try.prog.underlying 50).isSome = true := by kernel_rfl
theorem sz50 : sizeB Try.prog 50 = some 1 := by kernel_rfl
theorem na51 : isAggB Try.prog 51 = false := by kernel_rfl
theorem us51 : (Try.prog.underlying 51).isSome = true := by kernel_rfl
theorem sz51 : sizeB Try.prog 51 = some 1 := by kernel_rfl
theorem um51 : Try.prog.underlying 51 = some (.map 53 3) := by kernel_rfl
theorem ag52 : isAggB Try.prog 52 = true := by kernel_rfl
theorem fd52_0 : fieldB Try.prog 52 0 = some (0, 1) := by kernel_rfl
theorem fd52_1 : fieldB Try.prog 52 1 = some (1, 1) := by kernel_rfl
theorem fd52_2 : fieldB Try.prog 52 2 = some (2, 1) := by kernel_rfl
theorem fd52_3 : fieldB Try.prog 52 3 = some (3, 1) := by kernel_rfl
theorem eq52 : eqOkB Try.prog 52 4 = true := by kernel_rfl
theorem pl52 : placesB Try.prog 52 = some [(0, 1), (1, 1), (2, 1), (3, 1)] := by kernel_rfl
theorem sz52 : sizeB Try.prog 52 = some 4 := by kernel_rfl
theorem ag53 : isAggB Try.prog 53 = true := by kernel_rfl
theorem fd53_0 : fieldB Try.prog 53 0 = some (0, 1) := by kernel_rfl
theorem fd53_1 : fieldB Try.prog 53 1 = some (1, 1) := by kernel_rfl
theorem fd53_2 : fieldB Try.prog 53 2 = some (2, 1) := by kernel_rfl
theorem fd53_3 : fieldB Try.prog 53 3 = some (3, 1) := by kernel_rfl
theorem eq53 : eqOkB Try.prog 53 4 = true := by kernel_rfl
theorem pl53 : placesB Try.prog 53 = some [(0, 1), (1, 1), (2, 1), (3, 1)] := by kernel_rfl
theorem sz53 : sizeB Try.prog 53 = some 4 := by kernel_rfl
theorem na54 : isAggB Try.prog 54 = false := by kernel_rfl
theorem us54 : (Try.prog.underlying 54).isSome = true := by kernel_rfl
theorem sz54 : sizeB Try.prog 54 = some 1 := by kernel_rfl
theorem na55 : isAggB Try.prog 55 = false := by kernel_rfl
theorem us55 : (Try.prog.underlying 55).isSome = true := by kernel_rfl
theorem sz55 : sizeB Try.prog 55 = some 1 := by kernel_rfl
theorem na56 : isAggB Try.prog 56 = false := by kernel_rfl
theorem us56 : (Try.prog.underlying 56).isSome = true := by kernel_rfl
theorem sz56 : sizeB Try.prog 56 = some 1 := by kernel_rfl
theorem na57 : isAggB Try.prog 57 = false := by kernel_rfl
theorem us57 : (Try.prog.underlying 57).isSome = true := by kernel_rfl
theorem sz57 : sizeB Try.prog 57 = some 1 := by kernel_rfl
theorem na58 : isAggB Try.prog 58 = false := by kernel_rfl
theorem us58 : (Try.prog.underlying 58).isSome = true := by kernel_rfl
theorem sz58 : sizeB Try.prog 58 = some 1 := by kernel_rfl
theorem na59 : isAggB Try.prog 59 = false := by kernel_rfl
theorem us59 : (Try.prog.underlying 59).isSome = true := by kernel_rfl
theorem sz59 : sizeB Try.prog 59 = some 1 := by kernel_rfl
theorem ag60 : isAggB Try.prog 60 = true := by kernel_rfl
theorem fd60_0 : fieldB Try.prog 60 0 = some (0, 1) := by kernel_rfl
theorem fd60_1 : fieldB Try.prog 60 1 = some (1, 1) := by kernel_rfl
theorem fd60_2 : fieldB Try.prog 60 2 = some (2, 5) := by kernel_rfl
theorem eq60 : eqOkB Try.prog 60 7 = true := by kernel_rfl
theorem pl60 : placesB Try.prog 60 = some [(0, 1), (1, 1), (2, 5)] := by kernel_rfl
theorem sz60 : sizeB Try.prog 60 = some 7 := by kernel_rfl
theorem ag61 : isAggB Try.prog 61 = true := by kernel_rfl
theorem fd61_0 : fieldB Try.prog 61 0 = some (0, 1) := by kernel_rfl
theorem fd61_1 : fieldB Try.prog 61 1 = some (1, 1) := by kernel_rfl
theorem fd61_2 : fieldB Try.prog 61 2 = some (2, 5) := by kernel_rfl
theorem eq61 : eqOkB Try.prog 61 7 = true := by kernel_rfl
theorem pl61 : placesB Try.prog 61 = some [(0, 1), (1, 1), (2, 5)] := by kernel_rfl
theorem sz61 : sizeB Try.prog 61 = some 7 := by kernel_rfl
theorem na62 : isAggB Try.prog 62 = false := by kernel_rfl
theorem us62 : (Try.prog.underlying 62).isSome = true := by kernel_rfl
theorem sz62 : sizeB Try.prog 62 = some 1 := by kernel_rfl
theorem na63 : isAggB Try.prog 63 = false := by kernel_rfl
theorem us63 : (Try.prog.underlying 63).isSome = true := by kernel_rfl
theorem sz63 : sizeB Try.prog 63 = some 1 := by kernel_rfl
theorem na64 : isAggB Try.prog 64 = false := by kernel_rfl
theorem us64 : (Try.prog.underlying 64).isSome = true := by kernel_rfl
theorem sz64 : sizeB Try.prog 64 = some 1 := by kernel_rfl
theorem na65 : isAggB Try.prog 65 = false := by kernel_rfl
theorem us65 : (Try.prog.underlying 65).isSome = true := by kernel_rfl
theorem sz65 : sizeB Try.prog 65 = some 1 := by kernel_rfl
theorem ag66 : isAggB Try.prog 66 = true := by kernel_rfl
theorem fd66_0 : fieldB Try.prog 66 0 = some (0, 1) := by kernel_rfl
theorem fd66_1 : fieldB Try.prog 66 1 = some (1, 1) := by kernel_rfl
theorem pl66 : placesB Try.prog 66 = some [(0, 1), (1, 1)] := by kernel_rfl
theorem sz66 : sizeB Try.prog 66 = some 2 := by kernel_rfl
theorem ag67 : isAggB Try.prog 67 = true := by kernel_rfl
theorem fd67_0 : fieldB Try.prog 67 0 = some (0, 1) := by kernel_rfl
theorem fd67_1 : fieldB Try.prog 67 1 = some (1, 1) := by kernel_rfl
theorem pl67 : placesB Try.prog 67 = some [(0, 1), (1, 1)] := by kernel_rfl
theorem sz67 : sizeB Try.prog 67 = some 2 := by kernel_rfl
theorem na68 : isAggB Try.prog 68 = false := by kernel_rfl
theorem us68 : (Try.prog.underlying 68).isSome = true := by kernel_rfl
theorem sz68 : sizeB Try.prog 68 = some 1 := by kernel_rfl
theorem na69 : isAggB Try.prog 69 = false := by kernel_rfl
theorem us69 : (Try.prog.underlying 69).isSome = true := by kernel_rfl
theorem sz69 : sizeB Try.prog 69 = some 1 := by kernel_rfl
theorem um69 : Try.prog.underlying 69 = some (.map 43 3) := by kernel_rfl
theorem na70 : isAggB Try.prog 70 = false := by kernel_rfl
theorem us70 : (Try.prog.underlying 70).isSome = true := by kernel_rfl
theorem sz70 : sizeB Try.prog 70 = some 1 := by kernel_rfl
theorem na71 : isAggB Try.prog 71 = false := by kernel_rfl
theorem us71 : (Try.prog.underlying 71).isSome = true := by kernel_rfl
theorem sz71 : sizeB Try.prog 71 = some 1 := by kernel_rfl
theorem na72 : isAggB Try.prog 72 = false := by kernel_rfl
theorem us72 : (Try.prog.underlying 72).isSome = true := by kernel_rfl
theorem sz72 : sizeB Try.prog 72 = some 1 := by kernel_rfl
theorem na73 : isAggB Try.prog 73 = false := by kernel_rfl
theorem us73 : (Try.prog.underlying 73).isSome = true := by kernel_rfl
theorem sz73 : sizeB Try.prog 73 = some 1 := by kernel_rfl
theorem un73 : Try.prog.underlying 73 = some (.slice 53) := by kernel_rfl
theorem na74 : isAggB Try.prog 74 = false := by kernel_rfl
theorem us74 : (Try.prog.underlying 74).isSome = true := by kernel_rfl
theorem sz74 : sizeB Try.prog 74 = some 1 := by kernel_rfl
theorem na75 : isAggB Try.prog 75 = false := by kernel_rfl
theorem us75 : (Try.prog.underlying 75).isSome = true := by kernel_rfl
theorem sz75 : sizeB Try.prog 75 = some 1 := by kernel_rfl
theorem na76 : isAggB Try.prog 76 = false := by kernel_rfl
theorem us76 : (Try.prog.underlying 76).isSome = true := by kernel_rfl
theorem sz76 : sizeB Try.prog 76 = some 1 := by kernel_rfl
theorem na77 : isAggB Try.prog 77 = false := by kernel_rfl
theorem us77 : (Try.prog.underlying 77).isSome = true := by kernel_rfl
theorem sz77 : sizeB Try.prog 77 = some 1 := by kernel_rfl
theorem na78 : isAggB Try.prog 78 = false := by kernel_rfl
theorem us78 : (Try.prog.underlying 78).isSome = true := by kernel_rfl
theorem sz78 : sizeB Try.prog 78 = some 1 := by kernel_rfl
theorem na80 : isAggB Try.prog 80 = false := by kernel_rfl
theorem us80 : (Try.prog.underlying 80).isSome = true := by kernel_rfl
theorem sz80 : sizeB Try.prog 80 = some 1 := by kernel_rfl
theorem na81 : isAggB Try.prog 81 = false := by kernel_rfl
theorem us81 : (Try.prog.underlying 81).isSome = true := by kernel_rfl
theorem sz81 : sizeB Try.prog 81 = some 1 := by kernel_rfl
theorem na82 : isAggB Try.prog 82 = false := by kernel_rfl
theorem us82 : (Try.prog.underlying 82).isSome = true := by kernel_rfl
theorem sz82 : sizeB Try.prog 82 = some 1 := by kernel_rfl
theorem na83 : isAggB Try.prog 83 = false := by kernel_rfl
theorem us83 : (Try.prog.underlying 83).isSome = true := by kernel_rfl
theorem sz83 : sizeB Try.prog 83 = some 1 := by kernel_rfl
theorem na84 : isAggB Try.prog 84 = false := by kernel_rfl
theorem us84 : (Try.prog.underlying 84).isSome = true := by kernel_rfl
theorem sz84 : sizeB Try.prog 84 = some 1 := by kernel_rfl
theorem na85 : isAggB Try.prog 85 = false := by kernel_rfl
theorem us85 : (Try.prog.underlying 85).isSome = true := by kernel_rfl
theorem sz85 : sizeB Try.prog 85 = some 1 := by kernel_rfl
theorem un85 : Try.prog.underlying 85 = some (.int .u64) := by kernel_rfl
theorem na86 : isAggB Try.prog 86 = false := by kernel_rfl
theorem us86 : (Try.prog.underlying 86).isSome = true := by kernel_rfl
theorem sz86 : sizeB Try.prog 86 = some 1 := by kernel_rfl
theorem na87 : isAggB Try.prog 87 = false := by kernel_rfl
theorem us87 : (Try.prog.underlying 87).isSome = true := by kernel_rfl
theorem sz87 : sizeB Try.prog 87 = some 1 := by kernel_rfl
theorem na88 : isAggB Try.prog 88 = false := by kernel_rfl
theorem us88 : (Try.prog.underlying 88).isSome = true := by kernel_rfl
theorem sz88 : sizeB Try.prog 88 = some 1 := by kernel_rfl
theorem na89 : isAggB Try.prog 89 = false := by kernel_rfl
theorem us89 : (Try.prog.underlying 89).isSome = true := by kernel_rfl
theorem sz89 : sizeB Try.prog 89 = some 1 := by kernel_rfl
theorem na90 : isAggB Try.prog 90 = false := by kernel_rfl
theorem us90 : (Try.prog.underlying 90).isSome = true := by kernel_rfl
theorem sz90 : sizeB Try.prog 90 = some 1 := by kernel_rfl
theorem na91 : isAggB Try.prog 91 = false := by kernel_rfl
theorem us91 : (Try.prog.underlying 91).isSome = true := by kernel_rfl
theorem sz91 : sizeB Try.prog 91 = some 1 := by kernel_rfl
theorem na92 : isAggB Try.prog 92 = false := by kernel_rfl
theorem us92 : (Try.prog.underlying 92).isSome = true := by kernel_rfl
theorem sz92 : sizeB Try.prog 92 = some 1 := by kernel_rfl
theorem na93 : isAggB Try.prog 93 = false := by kernel_rfl
theorem us93 : (Try.prog.underlying 93).isSome = true := by kernel_rfl
theorem sz93 : sizeB Try.prog 93 = some 1 := by kernel_rfl
theorem na94 : isAggB Try.prog 94 = false := by kernel_rfl
theorem us94 : (Try.prog.underlying 94).isSome = true := by kernel_rfl
theorem sz94 : sizeB Try.prog 94 = some 1 := by kernel_rfl
theorem un94 : Try.prog.underlying 94 = some (.int .i64) := by kernel_rfl
theorem na96 : isAggB Try.prog 96 = false := by kernel_rfl
theorem us96 : (Try.prog.underlying 96).isSome = true := by kernel_rfl
theorem sz96 : sizeB Try.prog 96 = some 1 := by kernel_rfl
theorem na97 : isAggB Try.prog 97 = false := by kernel_rfl
theorem us97 : (Try.prog.underlying 97).isSome = true := by kernel_rfl
theorem sz97 : sizeB Try.prog 97 = some 1 := by kernel_rfl
theorem na98 : isAggB Try.prog 98 = false := by kernel_rfl
theorem us98 : (Try.prog.underlying 98).isSome = true := by kernel_rfl
theorem sz98 : sizeB Try.prog 98 = some 1 := by kernel_rfl
theorem na100 : isAggB Try.prog 100 = false := by kernel_rfl
theorem us100 : (Try.prog.underlying 100).isSome = true := by kernel_rfl
theorem sz100 : sizeB Try.prog 100 = some 1 := by kernel_rfl
theorem na101 : isAggB Try.prog 101 = false := by kernel_rfl
theorem us101 : (Try.prog.underlying 101).isSome = true := by kernel_rfl
theorem sz101 : sizeB Try.prog 101 = some 1 := by kernel_rfl
theorem na102 : isAggB Try.prog 102 = false := by kernel_rfl
theorem us102 : (Try.prog.underlying 102).isSome = true := by kernel_rfl
theorem sz102 : sizeB Try.prog 102 = some 1 := by kernel_rfl
theorem un102 : Try.prog.underlying 102 = some (.int .u32) := by kernel_rfl
theorem na103 : isAggB Try.prog 103 = false := by kernel_rfl
theorem us103 : (Try.prog.underlying 103).isSome = true := by kernel_rfl
theorem sz103 : sizeB Try.prog 103 = some 1 := by kernel_rfl
theorem na104 : isAggB Try.prog 104 = false := by kernel_rfl
theorem us104 : (Try.prog.underlying 104).isSome = true := by kernel_rfl
theorem sz104 : sizeB Try.prog 104 = some 1 := by kernel_rfl
theorem un104 : Try.prog.underlying 104 = some (.int .u64) := by kernel_rfl
theorem na105 : isAggB Try.prog 105 = false := by kernel_rfl
theorem us105 : (Try.prog.underlying 105).isSome = true := by kernel_rfl
theorem sz105 : sizeB Try.prog 105 = some 1 := by kernel_rfl
theorem na106 : isAggB Try.prog 106 = false := by kernel_rfl
theorem us106 : (Try.prog.underlying 106).isSome = true := by kernel_rfl
theorem sz106 : sizeB Try.prog 106 = some 1 := by kernel_rfl
theorem na107 : isAggB Try.prog 107 = false := by kernel_rfl
theorem us107 : (Try.prog.underlying 107).isSome = true := by kernel_rfl
theorem sz107 : sizeB Try.prog 107 = some 1 := by kernel_rfl
theorem un107 : Try.prog.underlying 107 = some (.int .u64) := by kernel_rfl
theorem na108 : isAggB Try.prog 108 = false := by kernel_rfl
theorem us108 : (Try.prog.underlying 108).isSome = true := by kernel_rfl
theorem sz108 : sizeB Try.prog 108 = some 1 := by kernel_rfl
theorem na109 : isAggB Try.prog 109 = false := by kernel_rfl
theorem us109 : (Try.prog.underlying 109).isSome = true := by kernel_rfl
theorem sz109 : sizeB Try.prog 109 = some 1 := by kernel_rfl
theorem na110 : isAggB Try.prog 110 = false := by kernel_rfl
theorem us110 : (Try.prog.underlying 110).isSome = true := by kernel_rfl
theorem sz110 : sizeB Try.prog 110 = some 1 := by kernel_rfl
theorem na111 : isAggB Try.prog 111 = false := by kernel_rfl
theorem us111 : (Try.prog.underlying 111).isSome = true := by kernel_rfl
theorem sz111 : sizeB Try.prog 111 = some 1 := by kernel_rfl
theorem na112 : isAggB Try.prog 112 = false := by kernel_rfl
theorem us112 : (Try.prog.underlying 112).isSome = true := by kernel_rfl
theorem sz112 : sizeB Try.prog 112 = some 1 := by kernel_rfl
theorem na113 : isAggB Try.prog 113 = false := by kernel_rfl
theorem us113 : (Try.prog.underlying 113).isSome = true := by kernel_rfl
theorem sz113 : sizeB Try.prog 113 = some 1 := by kernel_rfl
theorem na114 : isAggB Try.prog 114 = false := by kernel_rfl
theorem us114 : (Try.prog.underlying 114).isSome = true := by kernel_rfl
theorem sz114 : sizeB Try.prog 114 = some 1 := by kernel_rfl
theorem na115 : isAggB Try.prog 115 = false := by kernel_rfl
theorem us115 : (Try.prog.underlying 115).isSome = true := by kernel_rfl
theorem sz115 : sizeB Try.prog 115 = some 1 := by kernel_rfl
theorem na116 : isAggB Try.prog 116 = false := by kernel_rfl
theorem us116 : (Try.prog.underlying 116).isSome = true := by kernel_rfl
theorem sz116 : sizeB Try.prog 116 = some 1 := by kernel_rfl
theorem na117 : isAggB Try.prog 117 = false := by kernel_rfl
theorem us117 : (Try.prog.underlying 117).isSome = true := by kernel_rfl
theorem sz117 : sizeB Try.prog 117 = some 1 := by kernel_rfl
theorem na118 : isAggB Try.prog 118 = false := by kernel_rfl
theorem us118 : (Try.prog.underlying 118).isSome = true := by kernel_rfl
theorem sz118 : sizeB Try.prog 118 = some 1 := by kernel_rfl
theorem na120 : isAggB Try.prog 120 = false := by kernel_rfl
theorem us120 : (Try.prog.underlying 120).isSome = true := by kernel_rfl
theorem sz120 : sizeB Try.prog 120 = some 1 := by kernel_rfl
theorem na121 : isAggB Try.prog 121 = false := by kernel_rfl
theorem us121 : (Try.prog.underlying 121).isSome = true := by kernel_rfl
theorem sz121 : sizeB Try.prog 121 = some 1 := by kernel_rfl
theorem na122 : isAggB Try.prog 122 = false := by kernel_rfl
theorem us122 : (Try.prog.underlying 122).isSome = true := by kernel_rfl
theorem sz122 : sizeB Try.prog 122 = some 1 := by kernel_rfl
theorem na123 : isAggB Try.prog 123 = false := by kernel_rfl
theorem us123 : (Try.prog.underlying 123).isSome = true := by kernel_rfl
theorem sz123 : sizeB Try.prog 123 = some 1 := by kernel_rfl
theorem na124 : isAggB Try.prog 124 = false := by kernel_rfl
theorem us124 : (Try.prog.underlying 124).isSome = true := by kernel_rfl
theorem sz124 : sizeB Try.prog 124 = some 1 := by kernel_rfl
theorem ag125 : isAggB Try.prog 125 = true := by kernel_rfl
theorem fd125_0 : fieldB Try.prog 125 0 = some (0, 1) := by kernel_rfl
theorem fd125_1 : fieldB Try.prog 125 1 = some (1, 1) := by kernel_rfl
theorem fd125_2 : fieldB Try.prog 125 2 = some (2, 1) := by kernel_rfl
theorem fd125_3 : fieldB Try.prog 125 3 = some (3, 1) := by kernel_rfl
theorem pl125 : placesB Try.prog 125 = some [(0, 1), (1, 1), (2, 1), (3, 1)] := by kernel_rfl
theorem sz125 : sizeB Try.prog 125 = some 4 := by kernel_rfl
theorem ag126 : isAggB Try.prog 126 = true := by kernel_rfl
theorem fd126_0 : fieldB Try.prog 126 0 = some (0, 1) := by kernel_rfl
theorem fd126_1 : fieldB Try.prog 126 1 = some (1, 1) := by kernel_rfl
theorem fd126_2 : fieldB Try.prog 126 2 = some (2, 1) := by kernel_rfl
theorem fd126_3 : fieldB Try.prog 126 3 = some (3, 1) := by kernel_rfl
theorem pl126 : placesB Try.prog 126 = some [(0, 1), (1, 1), (2, 1), (3, 1)] := by kernel_rfl
theorem sz126 : sizeB Try.prog 126 = some 4 := by kernel_rfl
theorem ag128 : isAggB Try.prog 128 = true := by kernel_rfl
theorem ag129 : isAggB Try.prog 129 = true := by kernel_rfl
theorem na130 : isAggB Try.prog 130 = false := by kernel_rfl
theorem us130 : (Try.prog.underlying 130).isSome = true := by kernel_rfl
theorem sz130 : sizeB Try.prog 130 = some 1 := by kernel_rfl
theorem na131 : isAggB Try.prog 131 = false := by kernel_rfl
theorem us131 : (Try.prog.underlying 131).isSome = true := by kernel_rfl
theorem sz131 : sizeB Try.prog 131 = some 1 := by kernel_rfl
theorem un131 : Try.prog.underlying 131 = some (.int .u8) := by kernel_rfl
theorem na132 : isAggB Try.prog 132 = false := by kernel_rfl
theorem us132 : (Try.prog.underlying 132).isSome = true := by kernel_rfl
theorem sz132 : sizeB Try.prog 132 = some 1 := by kernel_rfl
theorem un132 : Try.prog.underlying 132 = some (.int .u8) := by kernel_rfl
theorem na133 : isAggB Try.prog 133 = false := by kernel_rfl
theorem us133 : (Try.prog.underlying 133).isSome = true := by kernel_rfl
theorem sz133 : sizeB Try.prog 133 = some 1 := by kernel_rfl
theorem na134 : isAggB Try.prog 134 = false := by kernel_rfl
theorem us134 : (Try.prog.underlying 134).isSome = true := by kernel_rfl
theorem sz134 : sizeB Try.prog 134 = some 1 := by kernel_rfl
theorem na135 : isAggB Try.prog 135 = false := by kernel_rfl
theorem us135 : (Try.prog.underlying 135).isSome = true := by kernel_rfl
theorem sz135 : sizeB Try.prog 135 = some 1 := by kernel_rfl
theorem un135 : Try.prog.underlying 135 = some (.int .i32) := by kernel_rfl
theorem na136 : isAggB Try.prog 136 = false := by kernel_rfl
theorem us136 : (Try.prog.underlying 136).isSome = true := by kernel_rfl
theorem sz136 : sizeB Try.prog 136 = some 1 := by kernel_rfl
theorem un136 : Try.prog.underlying 136 = some (.int .i32) := by kernel_rfl
theorem ag137 : isAggB Try.prog 137 = true := by kernel_rfl
theorem fd137_0 : fieldB Try.prog 137 0 = some (0, 1) := by kernel_rfl
theorem fd137_1 : fieldB Try.prog 137 1 = some (1, 1) := by kernel_rfl
theorem fd137_2 : fieldB Try.prog 137 2 = some (2, 1) := by kernel_rfl
theorem fd137_3 : fieldB Try.prog 137 3 = some (3, 1) := by kernel_rfl
theorem fd137_4 : fieldB Try.prog 137 4 = some (4, 1) := by kernel_rfl
theorem fd137_5 : fieldB Try.prog 137 5 = some (5, 1) := by kernel_rfl
theorem fd137_6 : fieldB Try.prog 137 6 = some (6, 1) := by kernel_rfl
theorem fd137_7 : fieldB Try.prog 137 7 = some (7, 1) := by kernel_rfl
theorem fd137_8 : fieldB Try.prog 137 8 = some (8, 1) := by kernel_rfl
theorem fd137_9 : fieldB Try.prog 137 9 = some (9, 1) := by kernel_rfl
theorem fd137_10 : fieldB Try.prog 137 10 = some (10, 1) := by kernel_rfl
theorem pl137 : placesB Try.prog 137 = some [(0, 1), (1, 1), (2, 1), (3, 1), (4, 1), (5, 1), (6, 1), (7, 1), (8, 1), (9, 1), (10, 1)] := by kernel_rfl
theorem sz137 : sizeB Try.prog 137 = some 11 := by kernel_rfl
theorem ag138 : isAggB Try.prog 138 = true := by kernel_rfl
theorem fd138_0 : fieldB Try.prog 138 0 = some (0, 1) := by kernel_rfl
theorem fd138_1 : fieldB Try.prog 138 1 = some (1, 1) := by kernel_rfl
theorem fd138_2 : fieldB Try.prog 138 2 = some (2, 1) := by kernel_rfl
theorem fd138_3 : fieldB Try.prog 138 3 = some (3, 1) := by kernel_rfl
theorem fd138_4 : fieldB Try.prog 138 4 = some (4, 1) := by kernel_rfl
theorem fd138_5 : fieldB Try.prog 138 5 = some (5, 1) := by kernel_rfl
theorem fd138_6 : fieldB Try.prog 138 6 = some (6, 1) := by kernel_rfl
theorem fd138_7 : fieldB Try.prog 138 7 = some (7, 1) := by kernel_rfl
theorem fd138_8 : fieldB Try.prog 138 8 = some (8, 1) := by kernel_rfl
theorem fd138_9 : fieldB Try.prog 138 9 = some (9, 1) := by kernel_rfl
theorem fd138_10 : fieldB Try.prog 138 10 = some (10, 1) := by kernel_rfl
theorem pl138 : placesB Try.prog 138 = some [(0, 1), (1, 1), (2, 1), (3, 1), (4, 1), (5, 1), (6, 1), (7, 1), (8, 1), (9, 1), (10, 1)] := by kernel_rfl
theorem sz138 : sizeB Try.prog 138 = some 11 := by kernel_rfl
theorem in2 : (Try.prog.info? 2).map (fun i => (i.zero, i.size, i.bytes)) = some (some (.int .i64 0), 1, 8) := by kernel_rfl
theorem zr2 : zeroB Try.prog 2 = some (.int .i64 0) := by kernel_rfl
theorem in3 : (Try.prog.info? 3).map (fun i => (i.zero, i.size, i.bytes)) = some (some (.int .i64 0), 1, 8) := by kernel_rfl
theorem zr3 : zeroB Try.prog 3 = some (.int .i64 0) := by kernel_rfl
theorem in4 : (Try.prog.info? 4).map (fun i => (i.zero, i.size, i.bytes)) = some (some (.bool false), 1, 1) := by kernel_rfl
theorem zr4 : zeroB Try.prog 4 = some (.bool false) := by kernel_rfl
theorem un4 : Try.prog.underlying 4 = some .bool := by kernel_rfl
theorem in5 : (Try.prog.info? 5).map (fun i => (i.zero, i.size, i.bytes)) = some (some (.int .u8 0), 1, 1) := by kernel_rfl
theorem zr5 : zeroB Try.prog 5 = some (.int .u8 0) := by kernel_rfl
theorem in6 : (Try.prog.info? 6).map (fun i => (i.zero, i.size, i.bytes)) = some (some (.int .u8 0), 1, 1) := by kernel_rfl
theorem zr6 : zeroB Try.prog 6 = some (.int .u8 0) := by kernel_rfl
theorem in7 : (Try.prog.info? 7).map (fun i => (i.zero, i.size, i.bytes)) = some (some (.agg #[.int .i64 0, .int .i64 0, .bool false, .int .u8 0]), 4, 24) := by kernel_rfl
theorem zr7 : zeroB Try.prog 7 = some (.agg #[.int .i64 0, .int .i64 0, .bool false, .int .u8 0]) := by kernel_rfl
theorem in8 : (Try.prog.info? 8).map (fun i => (i.zero, i.size, i.bytes)) = some (some (.agg #[.int .i64 0, .int .i64 0, .bool false, .int .u8 0]), 4, 24) := by kernel_rfl
theorem zr8 : zeroB Try.prog 8 = some (.agg #[.int .i64 0, .int .i64 0, .bool false, .int .u8 0]) := by kernel_rfl
theorem in12 : (Try.prog.info? 12).map (fun i => (i.zero, i.size, i.bytes)) = some (some (.int .u64 0), 1, 8) := by kernel_rfl
theorem zr12 : zeroB Try.prog 12 = some (.int .u64 0) := by kernel_rfl
theorem in15 : (Try.prog.info? 15).map (fun i => (i.zero, i.size, i.bytes)) = some (some (.pointer none), 1, 8) := by kernel_rfl
theorem zr15 : zeroB Try.prog 15 = some (.pointer none) := by kernel_rfl
theorem in16 : (Try.prog.info? 16).map (fun i => (i.zero, i.size, i.bytes)) = some (some (.pointer none), 1, 8) := by kernel_rfl
theorem zr16 : zeroB Try.prog 16 = some (.pointer none) := by kernel_rfl
theorem in17 : (Try.prog.info? 17).map (fun i => (i.zero, i.size, i.bytes)) = some (some (.pointer none), 1, 8) := by kernel_rfl
theorem zr17 : zeroB Try.prog 17 = some (.pointer none) := by kernel_rfl
theorem in18 : (Try.prog.info? 18).map (fun i => (i.zero, i.size, i.bytes)) = some (some (.agg #[.pointer none]), 1, 8) := by kernel_rfl
theorem zr18 : zeroB Try.prog 18 = some (.agg #[.pointer none]) := by kernel_rfl
theorem in19 : (Try.prog.info? 19).map (fun i => (i.zero, i.size, i.bytes)) = some (some (.agg #[.pointer none]), 1, 8) := by kernel_rfl
theorem zr19 : zeroB Try.prog 19 = some (.agg #[.pointer none]) := by kernel_rfl
theorem in21 : (Try.prog.info? 21).map (fun i => (i.zero, i.size, i.bytes)) = some (some (.int .i32 0), 1, 4) := by kernel_rfl
theorem zr21 : zeroB Try.prog 21 = some (.int .i32 0) := by kernel_rfl
theorem in22 : (Try.prog.info? 22).map (fun i => (i.zero, i.size, i.bytes)) = some (some (.slice none 0 0), 1, 24) := by kernel_rfl
theorem zr22 : zeroB Try.prog 22 = some (.slice none 0 0) := by kernel_rfl
theorem in23 : (Try.prog.info? 23).map (fun i => (i.zero, i.size, i.bytes)) = some (some (.slice none 0 0), 1, 24) := by kernel_rfl
theorem zr23 : zeroB Try.prog 23 = some (.slice none 0 0) := by kernel_rfl
theorem in24 : (Try.prog.info? 24).map (fun i => (i.zero, i.size, i.bytes)) = some (some (.agg #[.int .i64 0, .slice none 0 0]), 2, 32) := by kernel_rfl
theorem zr24 : zeroB Try.prog 24 = some (.agg #[.int .i64 0, .slice none 0 0]) := by kernel_rfl
theorem in25 : (Try.prog.info? 25).map (fun i => (i.zero, i.size, i.bytes)) = some (some (.agg #[.int .i64 0, .slice none 0 0]), 2, 32) := by kernel_rfl
theorem zr25 : zeroB Try.prog 25 = some (.agg #[.int .i64 0, .slice none 0 0]) := by kernel_rfl
theorem in27 : (Try.prog.info? 27).map (fun i => (i.zero, i.size, i.bytes)) = some (some (.pointer none), 1, 8) := by kernel_rfl
theorem zr27 : zeroB Try.prog 27 = some (.pointer none) := by kernel_rfl
theorem in29 : (Try.prog.info? 29).map (fun i => (i.zero, i.size, i.bytes)) = some (some (.slice none 0 0), 1, 24) := by kernel_rfl
theorem zr29 : zeroB Try.prog 29 = some (.slice none 0 0) := by kernel_rfl
theorem in31 : (Try.prog.info? 31).map (fun i => (i.zero, i.size, i.bytes)) = some (some (.int .i64 0), 1, 8) := by kernel_rfl
theorem zr31 : zeroB Try.prog 31 = some (.int .i64 0) := by kernel_rfl
theorem in38 : (Try.prog.info? 38).map (fun i => (i.zero, i.size, i.bytes)) = some (some (.int .u16 0), 1, 2) := by kernel_rfl
theorem zr38 : zeroB Try.prog 38 = some (.int .u16 0) := by kernel_rfl
theorem in42 : (Try.prog.info? 42).map (fun i => (i.zero, i.size, i.bytes)) = some (some (.agg #[.int .i64 0, .int .i64 0, .int .i64 0, .int .i64 0, .int .i64 0]), 5, 40) := by kernel_rfl
theorem zr42 : zeroB Try.prog 42 = some (.agg #[.int .i64 0, .int .i64 0, .int .i64 0, .int .i64 0, .int .i64 0]) := by kernel_rfl
theorem in43 : (Try.prog.info? 43).map (fun i => (i.zero, i.size, i.bytes)) = some (some (.agg #[.int .i64 0, .int .i64 0, .int .i64 0, .int .i64 0, .int .i64 0]), 5, 40) := by kernel_rfl
theorem zr43 : zeroB Try.prog 43 = some (.agg #[.int .i64 0, .int .i64 0, .int .i64 0, .int .i64 0, .int .i64 0]) := by kernel_rfl
theorem in51 : (Try.prog.info? 51).map (fun i => (i.zero, i.size, i.bytes)) = some (some (.map none), 1, 8) := by kernel_rfl
theorem zr51 : zeroB Try.prog 51 = some (.map none) := by kernel_rfl
theorem in52 : (Try.prog.info? 52).map (fun i => (i.zero, i.size, i.bytes)) = some (some (.agg #[.int .i64 0, .int .i64 0, .int .i64 0, .int .i64 0]), 4, 32) := by kernel_rfl
theorem zr52 : zeroB Try.prog 52 = some (.agg #[.int .i64 0, .int .i64 0, .int .i64 0, .int .i64 0]) := by kernel_rfl
theorem in53 : (Try.prog.info? 53).map (fun i => (i.zero, i.size, i.bytes)) = some (some (.agg #[.int .i64 0, .int .i64 0, .int .i64 0, .int .i64 0]), 4, 32) := by kernel_rfl
theorem zr53 : zeroB Try.prog 53 = some (.agg #[.int .i64 0, .int .i64 0, .int .i64 0, .int .i64 0]) := by kernel_rfl
theorem in60 : (Try.prog.info? 60).map (fun i => (i.zero, i.size, i.bytes)) = some (some (.agg #[.int .i64 0, .int .i64 0, .int .i64 0, .int .i64 0, .int .i64 0, .int .i64 0, .int .i64 0]), 7, 56) := by kernel_rfl
theorem zr60 : zeroB Try.prog 60 = some (.agg #[.int .i64 0, .int .i64 0, .int .i64 0, .int .i64 0, .int .i64 0, .int .i64 0, .int .i64 0]) := by kernel_rfl
theorem in61 : (Try.prog.info? 61).map (fun i => (i.zero, i.size, i.bytes)) = some (some (.agg #[.int .i64 0, .int .i64 0, .int .i64 0, .int .i64 0, .int .i64 0, .int .i64 0, .int .i64 0]), 7, 56) := by kernel_rfl
theorem zr61 : zeroB Try.prog 61 = some (.agg #[.int .i64 0, .int .i64 0, .int .i64 0, .int .i64 0, .int .i64 0, .int .i64 0, .int .i64 0]) := by kernel_rfl
theorem in66 : (Try.prog.info? 66).map (fun i => (i.zero, i.size, i.bytes)) = some (some (.agg #[.slice none 0 0, .int .i64 0]), 2, 32) := by kernel_rfl
theorem zr66 : zeroB Try.prog 66 = some (.agg #[.slice none 0 0, .int .i64 0]) := by kernel_rfl
theorem in67 : (Try.prog.info? 67).map (fun i => (i.zero, i.size, i.bytes)) = some (some (.agg #[.slice none 0 0, .int .i64 0]), 2, 32) := by kernel_rfl
theorem zr67 : zeroB Try.prog 67 = some (.agg #[.slice none 0 0, .int .i64 0]) := by kernel_rfl
theorem in69 : (Try.prog.info? 69).map (fun i => (i.zero, i.size, i.bytes)) = some (some (.map none), 1, 8) := by kernel_rfl
theorem zr69 : zeroB Try.prog 69 = some (.map none) := by kernel_rfl
theorem in73 : (Try.prog.info? 73).map (fun i => (i.zero, i.size, i.bytes)) = some (some (.slice none 0 0), 1, 24) := by kernel_rfl
theorem zr73 : zeroB Try.prog 73 = some (.slice none 0 0) := by kernel_rfl
theorem in85 : (Try.prog.info? 85).map (fun i => (i.zero, i.size, i.bytes)) = some (some (.int .u64 0), 1, 8) := by kernel_rfl
theorem zr85 : zeroB Try.prog 85 = some (.int .u64 0) := by kernel_rfl
theorem in94 : (Try.prog.info? 94).map (fun i => (i.zero, i.size, i.bytes)) = some (some (.int .i64 0), 1, 8) := by kernel_rfl
theorem zr94 : zeroB Try.prog 94 = some (.int .i64 0) := by kernel_rfl
theorem in102 : (Try.prog.info? 102).map (fun i => (i.zero, i.size, i.bytes)) = some (some (.int .u32 0), 1, 4) := by kernel_rfl
theorem zr102 : zeroB Try.prog 102 = some (.int .u32 0) := by kernel_rfl
theorem in104 : (Try.prog.info? 104).map (fun i => (i.zero, i.size, i.bytes)) = some (some (.int .u64 0), 1, 8) := by kernel_rfl
theorem zr104 : zeroB Try.prog 104 = some (.int .u64 0) := by kernel_rfl
theorem in107 : (Try.prog.info? 107).map (fun i => (i.zero, i.size, i.bytes)) = some (some (.int .u64 0), 1, 8) := by kernel_rfl
theorem zr107 : zeroB Try.prog 107 = some (.int .u64 0) := by kernel_rfl
theorem in111 : (Try.prog.info? 111).map (fun i => (i.zero, i.size, i.bytes)) = some (some (.pointer none), 1, 8) := by kernel_rfl
theorem zr111 : zeroB Try.prog 111 = some (.pointer none) := by kernel_rfl
theorem in118 : (Try.prog.info? 118).map (fun i => (i.zero, i.size, i.bytes)) = some (some (.pointer none), 1, 8) := by kernel_rfl
theorem zr118 : zeroB Try.prog 118 = some (.pointer none) := by kernel_rfl
theorem in131 : (Try.prog.info? 131).map (fun i => (i.zero, i.size, i.bytes)) = some (some (.int .u8 0), 1, 1) := by kernel_rfl
theorem zr131 : zeroB Try.prog 131 = some (.int .u8 0) := by kernel_rfl
theorem in132 : (Try.prog.info? 132).map (fun i => (i.zero, i.size, i.bytes)) = some (some (.int .u8 0), 1, 1) := by kernel_rfl
theorem zr132 : zeroB Try.prog 132 = some (.int .u8 0) := by kernel_rfl
theorem in134 : (Try.prog.info? 134).map (fun i => (i.zero, i.size, i.bytes)) = some (some (.pointer none), 1, 8) := by kernel_rfl
theorem zr134 : zeroB Try.prog 134 = some (.pointer none) := by kernel_rfl
theorem in135 : (Try.prog.info? 135).map (fun i => (i.zero, i.size, i.bytes)) = some (some (.int .i32 0), 1, 4) := by kernel_rfl
theorem zr135 : zeroB Try.prog 135 = some (.int .i32 0) := by kernel_rfl
theorem in136 : (Try.prog.info? 136).map (fun i => (i.zero, i.size, i.bytes)) = some (some (.int .i32 0), 1, 4) := by kernel_rfl
theorem zr136 : zeroB Try.prog 136 = some (.int .i32 0) := by kernel_rfl
theorem mixed : Try.prog.follows .mixedOrders = true := by kernel_rfl
end Go.Proofs.Ytdenliplkmjmjaa
