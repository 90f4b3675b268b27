/- Closed facts on the types of this translation, each reckoned by the kernel. Written by a small program. -/
import Derived.Test.YtkpoflfhmjkldaaKDet
import Derived.Test.YtkpoflfhmjkldaaRows
import Derived.KernelRfl
namespace Go.Proofs.Ytkpoflfhmjkldaa
theorem na1 : isAggB Try.prog 1 = false := by kernel_rfl
theorem us1 : (Try.prog.underlying 1).isSome = true := by kernel_rfl
theorem sz1 : sizeB Try.prog 1 = some 1 := by kernel_rfl
theorem na2 : isAggB Try.prog 2 = false := by kernel_rfl
theorem us2 : (Try.prog.underlying 2).isSome = true := by kernel_rfl
theorem sz2 : sizeB Try.prog 2 = some 1 := by kernel_rfl
theorem un2 : Try.prog.underlying 2 = some (.int .i64) := by kernel_rfl
theorem na3 : isAggB Try.prog 3 = false := by kernel_rfl
theorem us3 : (Try.prog.underlying 3).isSome = true := by kernel_rfl
theorem sz3 : sizeB Try.prog 3 = some 1 := by kernel_rfl
theorem un3 : Try.prog.underlying 3 = some (.int .i64) := by kernel_rfl
theorem na4 : isAggB Try.prog 4 = false := by kernel_rfl
theorem us4 : (Try.prog.underlying 4).isSome = true := by kernel_rfl
theorem sz4 : sizeB Try.prog 4 = some 1 := by kernel_rfl
theorem na5 : isAggB Try.prog 5 = false := by kernel_rfl
theorem us5 : (Try.prog.underlying 5).isSome = true := by kernel_rfl
theorem sz5 : sizeB Try.prog 5 = some 1 := by kernel_rfl
theorem un5 : Try.prog.underlying 5 = some (.int .u8) := by kernel_rfl
theorem na6 : isAggB Try.prog 6 = false := by kernel_rfl
theorem us6 : (Try.prog.underlying 6).isSome = true := by kernel_rfl
theorem sz6 : sizeB Try.prog 6 = some 1 := by kernel_rfl
theorem un6 : Try.prog.underlying 6 = some (.int .u8) := by kernel_rfl
theorem ag7 : isAggB Try.prog 7 = true := by kernel_rfl
theorem fd7_0 : fieldB Try.prog 7 0 = some (0, 1) := by kernel_rfl
theorem fd7_1 : fieldB Try.prog 7 1 = some (1, 1) := by kernel_rfl
theorem fd7_2 : fieldB Try.prog 7 2 = some (2, 1) := by kernel_rfl
theorem fd7_3 : fieldB Try.prog 7 3 = some (3, 1) := by kernel_rfl
theorem pl7 : placesB Try.prog 7 = some [(0, 1), (1, 1), (2, 1), (3, 1)] := by kernel_rfl
theorem sz7 : sizeB Try.prog 7 = some 4 := by kernel_rfl
theorem ag8 : isAggB Try.prog 8 = true := by kernel_rfl
theorem fd8_0 : fieldB Try.prog 8 0 = some (0, 1) := by kernel_rfl
theorem fd8_1 : fieldB Try.prog 8 1 = some (1, 1) := by kernel_rfl
theorem fd8_2 : fieldB Try.prog 8 2 = some (2, 1) := by kernel_rfl
theorem fd8_3 : fieldB Try.prog 8 3 = some (3, 1) := by kernel_rfl
theorem pl8 : placesB Try.prog 8 = some [(0, 1), (1, 1), (2, 1), (3, 1)] := by kernel_rfl
theorem sz8 : sizeB Try.prog 8 = some 4 := by kernel_rfl
theorem na9 : isAggB Try.prog 9 = false := by kernel_rfl
theorem us9 : (Try.prog.underlying 9).isSome = true := by kernel_rfl
theorem sz9 : sizeB Try.prog 9 = some 1 := by kernel_rfl
theorem na10 : isAggB Try.prog 10 = false := by kernel_rfl
theorem us10 : (Try.prog.underlying 10).isSome = true := by kernel_rfl
theorem sz10 : sizeB Try.prog 10 = some 1 := by kernel_rfl
theorem na11 : isAggB Try.prog 11 = false := by kernel_rfl
theorem us11 : (Try.prog.underlying 11).isSome = true := by kernel_rfl
theorem sz11 : sizeB Try.prog 11 = some 1 := by kernel_rfl
theorem na12 : isAggB Try.prog 12 = false := by kernel_rfl
theorem us12 : (Try.prog.underlying 12).isSome = true := by kernel_rfl
theorem sz12 : sizeB Try.prog 12 = some 1 := by kernel_rfl
theorem un12 : Try.prog.underlying 12 = some (.int .u64) := by kernel_rfl
theorem ag13 : isAggB Try.prog 13 = true := by kernel_rfl
theorem fd13_0 : fieldB Try.prog 13 0 = some (0, 1) := by kernel_rfl
theorem fd13_1 : fieldB Try.prog 13 1 = some (1, 1) := by kernel_rfl
theorem pl13 : placesB Try.prog 13 = some [(0, 1), (1, 1)] := by kernel_rfl
theorem sz13 : sizeB Try.prog 13 = some 2 := by kernel_rfl
theorem ag14 : isAggB Try.prog 14 = true := by kernel_rfl
theorem fd14_0 : fieldB Try.prog 14 0 = some (0, 1) := by kernel_rfl
theorem fd14_1 : fieldB Try.prog 14 1 = some (1, 1) := by kernel_rfl
theorem pl14 : placesB Try.prog 14 = some [(0, 1), (1, 1)] := by kernel_rfl
theorem sz14 : sizeB Try.prog 14 = some 2 := by kernel_rfl
theorem na15 : isAggB Try.prog 15 = false := by kernel_rfl
theorem us15 : (Try.prog.underlying 15).isSome = true := by kernel_rfl
theorem sz15 : sizeB Try.prog 15 = some 1 := by kernel_rfl
theorem na16 : isAggB Try.prog 16 = false := by kernel_rfl
theorem us16 : (Try.prog.underlying 16).isSome = true := by kernel_rfl
theorem sz16 : sizeB Try.prog 16 = some 1 := by kernel_rfl
theorem na17 : isAggB Try.prog 17 = false := by kernel_rfl
theorem us17 : (Try.prog.underlying 17).isSome = true := by kernel_rfl
theorem sz17 : sizeB Try.prog 17 = some 1 := by kernel_rfl
theorem ag18 : isAggB Try.prog 18 = true := by kernel_rfl
theorem fd18_0 : fieldB Try.prog 18 0 = some (0, 1) := by kernel_rfl
theorem pl18 : placesB Try.prog 18 = some [(0, 1)] := by kernel_rfl
theorem sz18 : sizeB Try.prog 18 = some 1 := by kernel_rfl
theorem ag19 : isAggB Try.prog 19 = true := by kernel_rfl
theorem fd19_0 : fieldB Try.prog 19 0 = some (0, 1) := by kernel_rfl
theorem pl19 : placesB Try.prog 19 = some [(0, 1)] := by kernel_rfl
theorem sz19 : sizeB Try.prog 19 = some 1 := by kernel_rfl
theorem na21 : isAggB Try.prog 21 = false := by kernel_rfl
theorem us21 : (Try.prog.underlying 21).isSome = true := by kernel_rfl
theorem sz21 : sizeB Try.prog 21 = some 1 := by kernel_rfl
theorem un21 : Try.prog.underlying 21 = some (.int .i32) := by kernel_rfl
theorem na22 : isAggB Try.prog 22 = false := by kernel_rfl
theorem us22 : (Try.prog.underlying 22).isSome = true := by kernel_rfl
theorem sz22 : sizeB Try.prog 22 = some 1 := by kernel_rfl
theorem un22 : Try.prog.underlying 22 = some (.slice 25) := by kernel_rfl
theorem ag23 : isAggB Try.prog 23 = true := by kernel_rfl
theorem fd23_0 : fieldB Try.prog 23 0 = some (0, 1) := by kernel_rfl
theorem fd23_1 : fieldB Try.prog 23 1 = some (1, 1) := by kernel_rfl
theorem fd23_2 : fieldB Try.prog 23 2 = some (2, 1) := by kernel_rfl
theorem pl23 : placesB Try.prog 23 = some [(0, 1), (1, 1), (2, 1)] := by kernel_rfl
theorem sz23 : sizeB Try.prog 23 = some 3 := by kernel_rfl
theorem ag24 : isAggB Try.prog 24 = true := by kernel_rfl
theorem fd24_0 : fieldB Try.prog 24 0 = some (0, 1) := by kernel_rfl
theorem fd24_1 : fieldB Try.prog 24 1 = some (1, 1) := by kernel_rfl
theorem fd24_2 : fieldB Try.prog 24 2 = some (2, 1) := by kernel_rfl
theorem pl24 : placesB Try.prog 24 = some [(0, 1), (1, 1), (2, 1)] := by kernel_rfl
theorem sz24 : sizeB Try.prog 24 = some 3 := by kernel_rfl
theorem na25 : isAggB Try.prog 25 = false := by kernel_rfl
theorem us25 : (Try.prog.underlying 25).isSome = true := by kernel_rfl
theorem sz25 : sizeB Try.prog 25 = some 1 := by kernel_rfl
theorem un25 : Try.prog.underlying 25 = some (.slice 5) := by kernel_rfl
theorem ag26 : isAggB Try.prog 26 = true := by kernel_rfl
theorem fd26_0 : fieldB Try.prog 26 0 = some (0, 1) := by kernel_rfl
theorem fd26_1 : fieldB Try.prog 26 1 = some (1, 1) := by kernel_rfl
theorem fd26_2 : fieldB Try.prog 26 2 = some (2, 1) := by kernel_rfl
theorem fd26_3 : fieldB Try.prog 26 3 = some (3, 1) := by kernel_rfl
theorem fd26_4 : fieldB Try.prog 26 4 = some (4, 1) := by kernel_rfl
theorem pl26 : placesB Try.prog 26 = some [(0, 1), (1, 1), (2, 1), (3, 1), (4, 1)] := by kernel_rfl
theorem sz26 : sizeB Try.prog 26 = some 5 := by kernel_rfl
theorem ag27 : isAggB Try.prog 27 = true := by kernel_rfl
theorem fd27_0 : fieldB Try.prog 27 0 = some (0, 1) := by kernel_rfl
theorem fd27_1 : fieldB Try.prog 27 1 = some (1, 1) := by kernel_rfl
theorem fd27_2 : fieldB Try.prog 27 2 = some (2, 1) := by kernel_rfl
theorem fd27_3 : fieldB Try.prog 27 3 = some (3, 1) := by kernel_rfl
theorem fd27_4 : fieldB Try.prog 27 4 = some (4, 1) := by kernel_rfl
theorem pl27 : placesB Try.prog 27 = some [(0, 1), (1, 1), (2, 1), (3, 1), (4, 1)] := by kernel_rfl
theorem sz27 : sizeB Try.prog 27 = some 5 := by kernel_rfl
theorem na28 : isAggB Try.prog 28 = false := by kernel_rfl
theorem us28 : (Try.prog.underlying 28).isSome = true := by kernel_rfl
theorem sz28 : sizeB Try.prog 28 = some 1 := by kernel_rfl
theorem un28 : Try.prog.underlying 28 = some (.int .i8) := by kernel_rfl
theorem na29 : isAggB Try.prog 29 = false := by kernel_rfl
theorem us29 : (Try.prog.underlying 29).isSome = true := by kernel_rfl
theorem sz29 : sizeB Try.prog 29 = some 1 := by kernel_rfl
theorem na30 : isAggB Try.prog 30 = false := by kernel_rfl
theorem us30 : (Try.prog.underlying 30).isSome = true := by kernel_rfl
theorem sz30 : sizeB Try.prog 30 = some 1 := by kernel_rfl
theorem un30 : Try.prog.underlying 30 = some (.slice 24) := by kernel_rfl
theorem na31 : isAggB Try.prog 31 = false := by kernel_rfl
theorem us31 : (Try.prog.underlying 31).isSome = true := by kernel_rfl
theorem sz31 : sizeB Try.prog 31 = some 1 := by kernel_rfl
theorem un31 : Try.prog.underlying 31 = some (.slice 27) := by kernel_rfl
theorem na33 : isAggB Try.prog 33 = false := by kernel_rfl
theorem us33 : (Try.prog.underlying 33).isSome = true := by kernel_rfl
theorem sz33 : sizeB Try.prog 33 = some 1 := by kernel_rfl
theorem na34 : isAggB Try.prog 34 = false := by kernel_rfl
theorem us34 : (Try.prog.underlying 34).isSome = true := by kernel_rfl
theorem sz34 : sizeB Try.prog 34 = some 1 := by kernel_rfl
theorem na35 : isAggB Try.prog 35 = false := by kernel_rfl
theorem us35 : (Try.prog.underlying 35).isSome = true := by kernel_rfl
theorem sz35 : sizeB Try.prog 35 = some 1 := by kernel_rfl
theorem na36 : isAggB Try.prog 36 = false := by kernel_rfl
theorem us36 : (Try.prog.underlying 36).isSome = true := by kernel_rfl
theorem sz36 : sizeB Try.prog 36 = some 1 := by kernel_rfl
theorem na37 : isAggB Try.prog 37 = false := by kernel_rfl
theorem us37 : (Try.prog.underlying 37).isSome = true := by kernel_rfl
theorem sz37 : sizeB Try.prog 37 = some 1 := by kernel_rfl
theorem na38 : isAggB Try.prog 38 = false := by kernel_rfl
theorem us38 : (Try.prog.underlying 38).isSome = true := by kernel_rfl
theorem sz38 : sizeB Try.prog 38 = some 1 := by kernel_rfl
theorem un38 : Try.prog.underlying 38 = some (.slice 3) := by kernel_rfl
theorem na39 : isAggB Try.prog 39 = false := by kernel_rfl
theorem us39 : (Try.prog.underlying 39).isSome = true := by kernel_rfl
theorem sz39 : sizeB Try.prog 39 = some 1 := by kernel_rfl
theorem na41 : isAggB Try.prog 41 = false := by kernel_rfl
theorem us41 : (Try.prog.underlying 41).isSome = true := by kernel_rfl
theorem sz41 : sizeB Try.prog 41 = some 1 := by kernel_rfl
theorem ag42 : isAggB Try.prog 42 = true := by kernel_rfl
theorem fd42_0 : fieldB Try.prog 42 0 = some (0, 3) := by kernel_rfl
theorem fd42_1 : fieldB Try.prog 42 1 = some (3, 3) := by kernel_rfl
theorem fd42_2 : fieldB Try.prog 42 2 = some (6, 1) := by kernel_rfl
theorem fd42_3 : fieldB Try.prog 42 3 = some (7, 1) := by kernel_rfl
theorem fd42_4 : fieldB Try.prog 42 4 = some (8, 1) := by kernel_rfl
theorem pl42 : placesB Try.prog 42 = some [(0, 3), (3, 3), (6, 1), (7, 1), (8, 1)] := by kernel_rfl
theorem sz42 : sizeB Try.prog 42 = some 9 := by kernel_rfl
theorem ag43 : isAggB Try.prog 43 = true := by kernel_rfl
theorem fd43_0 : fieldB Try.prog 43 0 = some (0, 3) := by kernel_rfl
theorem fd43_1 : fieldB Try.prog 43 1 = some (3, 3) := by kernel_rfl
theorem fd43_2 : fieldB Try.prog 43 2 = some (6, 1) := by kernel_rfl
theorem fd43_3 : fieldB Try.prog 43 3 = some (7, 1) := by kernel_rfl
theorem fd43_4 : fieldB Try.prog 43 4 = some (8, 1) := by kernel_rfl
theorem pl43 : placesB Try.prog 43 = some [(0, 3), (3, 3), (6, 1), (7, 1), (8, 1)] := by kernel_rfl
theorem sz43 : sizeB Try.prog 43 = some 9 := by kernel_rfl
theorem na44 : isAggB Try.prog 44 = false := by kernel_rfl
theorem us44 : (Try.prog.underlying 44).isSome = true := by kernel_rfl
theorem sz44 : sizeB Try.prog 44 = some 1 := by kernel_rfl
theorem na45 : isAggB Try.prog 45 = false := by kernel_rfl
theorem us45 : (Try.prog.underlying 45).isSome = true := by kernel_rfl
theorem sz45 : sizeB Try.prog 45 = some 1 := by kernel_rfl
theorem na46 : isAggB Try.prog 46 = false := by kernel_rfl
theorem us46 : (Try.prog.underlying 46).isSome = true := by kernel_rfl
theorem sz46 : sizeB Try.prog 46 = some 1 := by kernel_rfl
theorem na47 : isAggB Try.prog 47 = false := by kernel_rfl
theorem us47 : (Try.prog.underlying 47).isSome = true := by kernel_rfl
theorem sz47 : sizeB Try.prog 47 = some 1 := by kernel_rfl
theorem na48 : isAggB Try.prog 48 = false := by kernel_rfl
theorem us48 : (Try.prog.underlying 48).isSome = true := by kernel_rfl
theorem sz48 : sizeB Try.prog 48 = some 1 := by kernel_rfl
theorem na49 : isAggB Try.prog 49 = false := by kernel_rfl
theorem us49 : (Try.prog.underlying 49).isSome = true := by kernel_rfl
theorem sz49 : sizeB Try.prog 49 = some 1 := by kernel_rfl
theorem na50 : isAggB Try.prog 50 = false := by kernel_rfl
theorem us50 : (Try.prog.underlying 50).isSome = true := by kernel_rfl
theorem sz50 : sizeB Try.prog 50 = some 1 := by kernel_rfl
theorem na51 : isAggB Try.prog 51 = false := by kernel_rfl
theorem us51 : (Try.prog.underlying 51).isSome = true := by kernel_rfl
theorem sz51 : sizeB Try.prog 51 = some 1 := by kernel_rfl
theorem un51 : Try.prog.underlying 51 = some (.int .u64) := by kernel_rfl
theorem na52 : isAggB Try.prog 52 = false := by kernel_rfl
theorem us52 : (Try.prog.underlying 52).isSome = true := by kernel_rfl
theorem sz52 : sizeB Try.prog 52 = some 1 := by kernel_rfl
theorem un52 : Try.prog.underlying 52 = some (.int .i64) := by kernel_rfl
theorem na54 : isAggB Try.prog 54 = false := by kernel_rfl
theorem us54 : (Try.prog.underlying 54).isSome = true := by kernel_rfl
theorem sz54 : sizeB Try.prog 54 = some 1 := by kernel_rfl
theorem na55 : isAggB Try.prog 55 = false := by kernel_rfl
theorem us55 : (Try.prog.underlying 55).isSome = true := by kernel_rfl
theorem sz55 : sizeB Try.prog 55 = some 1 := by kernel_rfl
theorem na56 : isAggB Try.prog 56 = false := by kernel_rfl
theorem us56 : (Try.prog.underlying 56).isSome = true := by kernel_rfl
theorem sz56 : sizeB Try.prog 56 = some 1 := by kernel_rfl
theorem na57 : isAggB Try.prog 57 = false := by kernel_rfl
theorem us57 : (Try.prog.underlying 57).isSome = true := by kernel_rfl
theorem sz57 : sizeB Try.prog 57 = some 1 := by kernel_rfl
theorem na58 : isAggB Try.prog 58 = false := by kernel_rfl
theorem us58 : (Try.prog.underlying 58).isSome = true := by kernel_rfl
theorem sz58 : sizeB Try.prog 58 = some 1 := by kernel_rfl
theorem na59 : isAggB Try.prog 59 = false := by kernel_rfl
theorem us59 : (Try.prog.underlying 59).isSome = true := by kernel_rfl
theorem sz59 : sizeB Try.prog 59 = some 1 := by kernel_rfl
theorem na60 : isAggB Try.prog 60 = false := by kernel_rfl
theorem us60 : (Try.prog.underlying 60).isSome = true := by kernel_rfl
theorem sz60 : sizeB Try.prog 60 = some 1 := by kernel_rfl
theorem ag61 : isAggB Try.prog 61 = true := by kernel_rfl
theorem fd61_0 : fieldB Try.prog 61 0 = some (0, 1) := by kernel_rfl
theorem fd61_1 : fieldB Try.prog 61 1 = some (1, 1) := by kernel_rfl
theorem fd61_2 : fieldB Try.prog 61 2 = some (2, 1) := by kernel_rfl
theorem fd61_3 : fieldB Try.prog 61 3 = some (3, 1) := by kernel_rfl
theorem pl61 : placesB Try.prog 61 = some [(0, 1), (1, 1), (2, 1), (3, 1)] := by kernel_rfl
theorem sz61 : sizeB Try.prog 61 = some 4 := by kernel_rfl
theorem ag62 : isAggB Try.prog 62 = true := by kernel_rfl
theorem fd62_0 : fieldB Try.prog 62 0 = some (0, 1) := by kernel_rfl
theorem fd62_1 : fieldB Try.prog 62 1 = some (1, 1) := by kernel_rfl
theorem fd62_2 : fieldB Try.prog 62 2 = some (2, 1) := by kernel_rfl
theorem fd62_3 : fieldB Try.prog 62 3 = some (3, 1) := by kernel_rfl
theorem pl62 : placesB Try.prog 62 = some [(0, 1), (1, 1), (2, 1), (3, 1)] := by kernel_rfl
theorem sz62 : sizeB Try.prog 62 = some 4 := by kernel_rfl
theorem ag64 : isAggB Try.prog 64 = true := by kernel_rfl
theorem ag65 : isAggB Try.prog 65 = true := by kernel_rfl
theorem na66 : isAggB Try.prog 66 = false := by kernel_rfl
theorem us66 : (Try.prog.underlying 66).isSome = true := by kernel_rfl
theorem sz66 : sizeB Try.prog 66 = some 1 := by kernel_rfl
theorem na67 : isAggB Try.prog 67 = false := by kernel_rfl
theorem us67 : (Try.prog.underlying 67).isSome = true := by kernel_rfl
theorem sz67 : sizeB Try.prog 67 = some 1 := by kernel_rfl
theorem un67 : Try.prog.underlying 67 = some (.int .u32) := by kernel_rfl
theorem na68 : isAggB Try.prog 68 = false := by kernel_rfl
theorem us68 : (Try.prog.underlying 68).isSome = true := by kernel_rfl
theorem sz68 : sizeB Try.prog 68 = some 1 := by kernel_rfl
theorem un68 : Try.prog.underlying 68 = some (.int .u8) := by kernel_rfl
theorem na69 : isAggB Try.prog 69 = false := by kernel_rfl
theorem us69 : (Try.prog.underlying 69).isSome = true := by kernel_rfl
theorem sz69 : sizeB Try.prog 69 = some 1 := by kernel_rfl
theorem un69 : Try.prog.underlying 69 = some (.int .u8) := by kernel_rfl
theorem na70 : isAggB Try.prog 70 = false := by kernel_rfl
theorem us70 : (Try.prog.underlying 70).isSome = true := by kernel_rfl
theorem sz70 : sizeB Try.prog 70 = some 1 := by kernel_rfl
theorem na71 : isAggB Try.prog 71 = false := by kernel_rfl
theorem us71 : (Try.prog.underlying 71).isSome = true := by kernel_rfl
theorem sz71 : sizeB Try.prog 71 = some 1 := by kernel_rfl
theorem na72 : isAggB Try.prog 72 = false := by kernel_rfl
theorem us72 : (Try.prog.underlying 72).isSome = true := by kernel_rfl
theorem sz72 : sizeB Try.prog 72 = some 1 := by kernel_rfl
theorem un72 : Try.prog.underlying 72 = some (.int .i32) := by kernel_rfl
theorem na73 : isAggB Try.prog 73 = false := by kernel_rfl
theorem us73 : (Try.prog.underlying 73).isSome = true := by kernel_rfl
theorem sz73 : sizeB Try.prog 73 = some 1 := by kernel_rfl
theorem un73 : Try.prog.underlying 73 = some (.int .i32) := by kernel_rfl
theorem ag74 : isAggB Try.prog 74 = true := by kernel_rfl
theorem fd74_0 : fieldB Try.prog 74 0 = some (0, 1) := by kernel_rfl
theorem fd74_1 : fieldB Try.prog 74 1 = some (1, 1) := by kernel_rfl
theorem fd74_2 : fieldB Try.prog 74 2 = some (2, 1) := by kernel_rfl
theorem fd74_3 : fieldB Try.prog 74 3 = some (3, 1) := by kernel_rfl
theorem fd74_4 : fieldB Try.prog 74 4 = some (4, 1) := by kernel_rfl
theorem fd74_5 : fieldB Try.prog 74 5 = some (5, 1) := by kernel_rfl
theorem fd74_6 : fieldB Try.prog 74 6 = some (6, 1) := by kernel_rfl
theorem fd74_7 : fieldB Try.prog 74 7 = some (7, 1) := by kernel_rfl
theorem fd74_8 : fieldB Try.prog 74 8 = some (8, 1) := by kernel_rfl
theorem fd74_9 : fieldB Try.prog 74 9 = some (9, 1) := by kernel_rfl
theorem fd74_10 : fieldB Try.prog 74 10 = some (10, 1) := by kernel_rfl
theorem pl74 : placesB Try.prog 74 = some [(0, 1), (1, 1), (2, 1), (3, 1), (4, 1), (5, 1), (6, 1), (7, 1), (8, 1), (9, 1), (10, 1)] := by kernel_rfl
theorem sz74 : sizeB Try.prog 74 = some 11 := by kernel_rfl
theorem ag75 : isAggB Try.prog 75 = true := by kernel_rfl
theorem fd75_0 : fieldB Try.prog 75 0 = some (0, 1) := by kernel_rfl
theorem fd75_1 : fieldB Try.prog 75 1 = some (1, 1) := by kernel_rfl
theorem fd75_2 : fieldB Try.prog 75 2 = some (2, 1) := by kernel_rfl
theorem fd75_3 : fieldB Try.prog 75 3 = some (3, 1) := by kernel_rfl
theorem fd75_4 : fieldB Try.prog 75 4 = some (4, 1) := by kernel_rfl
theorem fd75_5 : fieldB Try.prog 75 5 = some (5, 1) := by kernel_rfl
theorem fd75_6 : fieldB Try.prog 75 6 = some (6, 1) := by kernel_rfl
theorem fd75_7 : fieldB Try.prog 75 7 = some (7, 1) := by kernel_rfl
theorem fd75_8 : fieldB Try.prog 75 8 = some (8, 1) := by kernel_rfl
theorem fd75_9 : fieldB Try.prog 75 9 = some (9, 1) := by kernel_rfl
theorem fd75_10 : fieldB Try.prog 75 10 = some (10, 1) := by kernel_rfl
theorem pl75 : placesB Try.prog 75 = some [(0, 1), (1, 1), (2, 1), (3, 1), (4, 1), (5, 1), (6, 1), (7, 1), (8, 1), (9, 1), (10, 1)] := by kernel_rfl
theorem sz75 : sizeB Try.prog 75 = some 11 := by kernel_rfl
theorem in2 : (Try.prog.info? 2).map (fun i => (i.zero, i.size, i.bytes)) = some (some (.int .i64 0), 1, 8) := by kernel_rfl
theorem zr2 : zeroB Try.prog 2 = some (.int .i64 0) := by kernel_rfl
theorem in3 : (Try.prog.info? 3).map (fun i => (i.zero, i.size, i.bytes)) = some (some (.int .i64 0), 1, 8) := by kernel_rfl
theorem zr3 : zeroB Try.prog 3 = some (.int .i64 0) := by kernel_rfl
theorem in4 : (Try.prog.info? 4).map (fun i => (i.zero, i.size, i.bytes)) = some (some (.bool false), 1, 1) := by kernel_rfl
theorem zr4 : zeroB Try.prog 4 = some (.bool false) := by kernel_rfl
theorem un4 : Try.prog.underlying 4 = some .bool := by kernel_rfl
theorem in5 : (Try.prog.info? 5).map (fun i => (i.zero, i.size, i.bytes)) = some (some (.int .u8 0), 1, 1) := by kernel_rfl
theorem zr5 : zeroB Try.prog 5 = some (.int .u8 0) := by kernel_rfl
theorem in6 : (Try.prog.info? 6).map (fun i => (i.zero, i.size, i.bytes)) = some (some (.int .u8 0), 1, 1) := by kernel_rfl
theorem zr6 : zeroB Try.prog 6 = some (.int .u8 0) := by kernel_rfl
theorem in7 : (Try.prog.info? 7).map (fun i => (i.zero, i.size, i.bytes)) = some (some (.agg #[.int .i64 0, .int .i64 0, .bool false, .int .u8 0]), 4, 24) := by kernel_rfl
theorem zr7 : zeroB Try.prog 7 = some (.agg #[.int .i64 0, .int .i64 0, .bool false, .int .u8 0]) := by kernel_rfl
theorem in8 : (Try.prog.info? 8).map (fun i => (i.zero, i.size, i.bytes)) = some (some (.agg #[.int .i64 0, .int .i64 0, .bool false, .int .u8 0]), 4, 24) := by kernel_rfl
theorem zr8 : zeroB Try.prog 8 = some (.agg #[.int .i64 0, .int .i64 0, .bool false, .int .u8 0]) := by kernel_rfl
theorem in12 : (Try.prog.info? 12).map (fun i => (i.zero, i.size, i.bytes)) = some (some (.int .u64 0), 1, 8) := by kernel_rfl
theorem zr12 : zeroB Try.prog 12 = some (.int .u64 0) := by kernel_rfl
theorem in15 : (Try.prog.info? 15).map (fun i => (i.zero, i.size, i.bytes)) = some (some (.pointer none), 1, 8) := by kernel_rfl
theorem zr15 : zeroB Try.prog 15 = some (.pointer none) := by kernel_rfl
theorem in16 : (Try.prog.info? 16).map (fun i => (i.zero, i.size, i.bytes)) = some (some (.pointer none), 1, 8) := by kernel_rfl
theorem zr16 : zeroB Try.prog 16 = some (.pointer none) := by kernel_rfl
theorem in17 : (Try.prog.info? 17).map (fun i => (i.zero, i.size, i.bytes)) = some (some (.pointer none), 1, 8) := by kernel_rfl
theorem zr17 : zeroB Try.prog 17 = some (.pointer none) := by kernel_rfl
theorem in18 : (Try.prog.info? 18).map (fun i => (i.zero, i.size, i.bytes)) = some (some (.agg #[.pointer none]), 1, 8) := by kernel_rfl
theorem zr18 : zeroB Try.prog 18 = some (.agg #[.pointer none]) := by kernel_rfl
theorem in19 : (Try.prog.info? 19).map (fun i => (i.zero, i.size, i.bytes)) = some (some (.agg #[.pointer none]), 1, 8) := by kernel_rfl
theorem zr19 : zeroB Try.prog 19 = some (.agg #[.pointer none]) := by kernel_rfl
theorem in21 : (Try.prog.info? 21).map (fun i => (i.zero, i.size, i.bytes)) = some (some (.int .i32 0), 1, 4) := by kernel_rfl
theorem zr21 : zeroB Try.prog 21 = some (.int .i32 0) := by kernel_rfl
theorem in22 : (Try.prog.info? 22).map (fun i => (i.zero, i.size, i.bytes)) = some (some (.slice none 0 0), 1, 24) := by kernel_rfl
theorem zr22 : zeroB Try.prog 22 = some (.slice none 0 0) := by kernel_rfl
theorem in23 : (Try.prog.info? 23).map (fun i => (i.zero, i.size, i.bytes)) = some (some (.agg #[.slice none 0 0, .int .i64 0, .int .i64 0]), 3, 40) := by kernel_rfl
theorem zr23 : zeroB Try.prog 23 = some (.agg #[.slice none 0 0, .int .i64 0, .int .i64 0]) := by kernel_rfl
theorem in24 : (Try.prog.info? 24).map (fun i => (i.zero, i.size, i.bytes)) = some (some (.agg #[.slice none 0 0, .int .i64 0, .int .i64 0]), 3, 40) := by kernel_rfl
theorem zr24 : zeroB Try.prog 24 = some (.agg #[.slice none 0 0, .int .i64 0, .int .i64 0]) := by kernel_rfl
theorem in25 : (Try.prog.info? 25).map (fun i => (i.zero, i.size, i.bytes)) = some (some (.slice none 0 0), 1, 24) := by kernel_rfl
theorem zr25 : zeroB Try.prog 25 = some (.slice none 0 0) := by kernel_rfl
theorem in26 : (Try.prog.info? 26).map (fun i => (i.zero, i.size, i.bytes)) = some (some (.agg #[.int .i64 0, .bool false, .int .i64 0, .int .i64 0, .slice none 0 0]), 5, 56) := by kernel_rfl
theorem zr26 : zeroB Try.prog 26 = some (.agg #[.int .i64 0, .bool false, .int .i64 0, .int .i64 0, .slice none 0 0]) := by kernel_rfl
theorem in27 : (Try.prog.info? 27).map (fun i => (i.zero, i.size, i.bytes)) = some (some (.agg #[.int .i64 0, .bool false, .int .i64 0, .int .i64 0, .slice none 0 0]), 5, 56) := by kernel_rfl
theorem zr27 : zeroB Try.prog 27 = some (.agg #[.int .i64 0, .bool false, .int .i64 0, .int .i64 0, .slice none 0 0]) := by kernel_rfl
theorem in28 : (Try.prog.info? 28).map (fun i => (i.zero, i.size, i.bytes)) = some (some (.int .i8 0), 1, 1) := by kernel_rfl
theorem zr28 : zeroB Try.prog 28 = some (.int .i8 0) := by kernel_rfl
theorem in30 : (Try.prog.info? 30).map (fun i => (i.zero, i.size, i.bytes)) = some (some (.slice none 0 0), 1, 24) := by kernel_rfl
theorem zr30 : zeroB Try.prog 30 = some (.slice none 0 0) := by kernel_rfl
theorem in31 : (Try.prog.info? 31).map (fun i => (i.zero, i.size, i.bytes)) = some (some (.slice none 0 0), 1, 24) := by kernel_rfl
theorem zr31 : zeroB Try.prog 31 = some (.slice none 0 0) := by kernel_rfl
theorem in38 : (Try.prog.info? 38).map (fun i => (i.zero, i.size, i.bytes)) = some (some (.slice none 0 0), 1, 24) := by kernel_rfl
theorem zr38 : zeroB Try.prog 38 = some (.slice none 0 0) := by kernel_rfl
theorem in39 : (Try.prog.info? 39).map (fun i => (i.zero, i.size, i.bytes)) = some (some (.pointer none), 1, 8) := by kernel_rfl
theorem zr39 : zeroB Try.prog 39 = some (.pointer none) := by kernel_rfl
theorem in42 : (Try.prog.info? 42).map (fun i => (i.zero, i.size, i.bytes)) = some (some (.agg #[.slice none 0 0, .int .i64 0, .int .i64 0, .slice none 0 0, .int .i64 0, .int .i64 0, .slice none 0 0, .slice none 0 0, .bool false]), 9, 136) := by kernel_rfl
theorem zr42 : zeroB Try.prog 42 = some (.agg #[.slice none 0 0, .int .i64 0, .int .i64 0, .slice none 0 0, .int .i64 0, .int .i64 0, .slice none 0 0, .slice none 0 0, .bool false]) := by kernel_rfl
theorem in43 : (Try.prog.info? 43).map (fun i => (i.zero, i.size, i.bytes)) = some (some (.agg #[.slice none 0 0, .int .i64 0, .int .i64 0, .slice none 0 0, .int .i64 0, .int .i64 0, .slice none 0 0, .slice none 0 0, .bool false]), 9, 136) := by kernel_rfl
theorem zr43 : zeroB Try.prog 43 = some (.agg #[.slice none 0 0, .int .i64 0, .int .i64 0, .slice none 0 0, .int .i64 0, .int .i64 0, .slice none 0 0, .slice none 0 0, .bool false]) := by kernel_rfl
theorem in51 : (Try.prog.info? 51).map (fun i => (i.zero, i.size, i.bytes)) = some (some (.int .u64 0), 1, 8) := by kernel_rfl
theorem zr51 : zeroB Try.prog 51 = some (.int .u64 0) := by kernel_rfl
theorem in52 : (Try.prog.info? 52).map (fun i => (i.zero, i.size, i.bytes)) = some (some (.int .i64 0), 1, 8) := by kernel_rfl
theorem zr52 : zeroB Try.prog 52 = some (.int .i64 0) := by kernel_rfl
theorem in67 : (Try.prog.info? 67).map (fun i => (i.zero, i.size, i.bytes)) = some (some (.int .u32 0), 1, 4) := by kernel_rfl
theorem zr67 : zeroB Try.prog 67 = some (.int .u32 0) := by kernel_rfl
theorem in68 : (Try.prog.info? 68).map (fun i => (i.zero, i.size, i.bytes)) = some (some (.int .u8 0), 1, 1) := by kernel_rfl
theorem zr68 : zeroB Try.prog 68 = some (.int .u8 0) := by kernel_rfl
theorem in69 : (Try.prog.info? 69).map (fun i => (i.zero, i.size, i.bytes)) = some (some (.int .u8 0), 1, 1) := by kernel_rfl
theorem zr69 : zeroB Try.prog 69 = some (.int .u8 0) := by kernel_rfl
theorem in71 : (Try.prog.info? 71).map (fun i => (i.zero, i.size, i.bytes)) = some (some (.pointer none), 1, 8) := by kernel_rfl
theorem zr71 : zeroB Try.prog 71 = some (.pointer none) := by kernel_rfl
theorem in72 : (Try.prog.info? 72).map (fun i => (i.zero, i.size, i.bytes)) = some (some (.int .i32 0), 1, 4) := by kernel_rfl
theorem zr72 : zeroB Try.prog 72 = some (.int .i32 0) := by kernel_rfl
theorem in73 : (Try.prog.info? 73).map (fun i => (i.zero, i.size, i.bytes)) = some (some (.int .i32 0), 1, 4) := by kernel_rfl
theorem zr73 : zeroB Try.prog 73 = some (.int .i32 0) := by kernel_rfl
theorem mixed : Try.prog.follows .mixedOrders = true := by kernel_rfl
end Go.Proofs.Ytkpoflfhmjkldaa
