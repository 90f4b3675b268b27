/- Closed facts on the types of this translation, each reckoned by the kernel. Written by a small program. -/
import Derived.Test.YtadkcelipefpmaaKDet
import Derived.Test.YtadkcelipefpmaaRows
import Derived.KernelRfl
namespace Go.Proofs.Ytadkcelipefpmaa
theorem na1 : isAggB Try.prog 1 = false := by kernel_rfl
theorem us1 : (Try.prog.underlying 1).isSome = true := by kernel_rfl
theorem sz1 : sizeB Try.prog 1 = some 1 := by kernel_rfl
theorem na2 : isAggB Try.prog 2 = false := by kernel_rfl
theorem us2 : (Try.prog.underlying 2).isSome = true := by kernel_rfl
theorem sz2 : sizeB Try.prog 2 = some 1 := by kernel_rfl
theorem un2 : Try.prog.underlying 2 = some (.int .i64) := by kernel_rfl
theorem na3 : isAggB Try.prog 3 = false := by kernel_rfl
theorem us3 : (Try.prog.underlying 3).isSome = true := by kernel_rfl
theorem sz3 : sizeB Try.prog 3 = some 1 := by kernel_rfl
theorem un3 : Try.prog.underlying 3 = some (.int .i64) := by kernel_rfl
theorem na4 : isAggB Try.prog 4 = false := by kernel_rfl
theorem us4 : (Try.prog.underlying 4).isSome = true := by kernel_rfl
theorem sz4 : sizeB Try.prog 4 = some 1 := by kernel_rfl
theorem na5 : isAggB Try.prog 5 = false := by kernel_rfl
theorem us5 : (Try.prog.underlying 5).isSome = true := by kernel_rfl
theorem sz5 : sizeB Try.prog 5 = some 1 := by kernel_rfl
theorem un5 : Try.prog.underlying 5 = some (.int .u8) := by kernel_rfl
theorem na6 : isAggB Try.prog 6 = false := by kernel_rfl
theorem us6 : (Try.prog.underlying 6).isSome = true := by kernel_rfl
theorem sz6 : sizeB Try.prog 6 = some 1 := by kernel_rfl
theorem un6 : Try.prog.underlying 6 = some (.int .u8) := by kernel_rfl
theorem ag7 : isAggB Try.prog 7 = true := by kernel_rfl
theorem fd7_0 : fieldB Try.prog 7 0 = some (0, 1) := by kernel_rfl
theorem fd7_1 : fieldB Try.prog 7 1 = some (1, 1) := by kernel_rfl
theorem fd7_2 : fieldB Try.prog 7 2 = some (2, 1) := by kernel_rfl
theorem fd7_3 : fieldB Try.prog 7 3 = some (3, 1) := by kernel_rfl
theorem pl7 : placesB Try.prog 7 = some [(0, 1), (1, 1), (2, 1), (3, 1)] := by kernel_rfl
theorem sz7 : sizeB Try.prog 7 = some 4 := by kernel_rfl
theorem ag8 : isAggB Try.prog 8 = true := by kernel_rfl
theorem fd8_0 : fieldB Try.prog 8 0 = some (0, 1) := by kernel_rfl
theorem fd8_1 : fieldB Try.prog 8 1 = some (1, 1) := by kernel_rfl
theorem fd8_2 : fieldB Try.prog 8 2 = some (2, 1) := by kernel_rfl
theorem fd8_3 : fieldB Try.prog 8 3 = some (3, 1) := by kernel_rfl
theorem pl8 : placesB Try.prog 8 = some [(0, 1), (1, 1), (2, 1), (3, 1)] := by kernel_rfl
theorem sz8 : sizeB Try.prog 8 = some 4 := by kernel_rfl
theorem na9 : isAggB Try.prog 9 = false := by kernel_rfl
theorem us9 : (Try.prog.underlying 9).isSome = true := by kernel_rfl
theorem sz9 : sizeB Try.prog 9 = some 1 := by kernel_rfl
theorem na10 : isAggB Try.prog 10 = false := by kernel_rfl
theorem us10 : (Try.prog.underlying 10).isSome = true := by kernel_rfl
theorem sz10 : sizeB Try.prog 10 = some 1 := by kernel_rfl
theorem na11 : isAggB Try.prog 11 = false := by kernel_rfl
theorem us11 : (Try.prog.underlying 11).isSome = true := by kernel_rfl
theorem sz11 : sizeB Try.prog 11 = some 1 := by kernel_rfl
theorem na12 : isAggB Try.prog 12 = false := by kernel_rfl
theorem us12 : (Try.prog.underlying 12).isSome = true := by kernel_rfl
theorem sz12 : sizeB Try.prog 12 = some 1 := by kernel_rfl
theorem un12 : Try.prog.underlying 12 = some (.int .u64) := by kernel_rfl
theorem ag13 : isAggB Try.prog 13 = true := by kernel_rfl
theorem fd13_0 : fieldB Try.prog 13 0 = some (0, 1) := by kernel_rfl
theorem fd13_1 : fieldB Try.prog 13 1 = some (1, 1) := by kernel_rfl
theorem pl13 : placesB Try.prog 13 = some [(0, 1), (1, 1)] := by kernel_rfl
theorem sz13 : sizeB Try.prog 13 = some 2 := by kernel_rfl
theorem ag14 : isAggB Try.prog 14 = true := by kernel_rfl
theorem fd14_0 : fieldB Try.prog 14 0 = some (0, 1) := by kernel_rfl
theorem fd14_1 : fieldB Try.prog 14 1 = some (1, 1) := by kernel_rfl
theorem pl14 : placesB Try.prog 14 = some [(0, 1), (1, 1)] := by kernel_rfl
theorem sz14 : sizeB Try.prog 14 = some 2 := by kernel_rfl
theorem na15 : isAggB Try.prog 15 = false := by kernel_rfl
theorem us15 : (Try.prog.underlying 15).isSome = true := by kernel_rfl
theorem sz15 : sizeB Try.prog 15 = some 1 := by kernel_rfl
theorem na16 : isAggB Try.prog 16 = false := by kernel_rfl
theorem us16 : (Try.prog.underlying 16).isSome = true := by kernel_rfl
theorem sz16 : sizeB Try.prog 16 = some 1 := by kernel_rfl
theorem na17 : isAggB Try.prog 17 = false := by kernel_rfl
theorem us17 : (Try.prog.underlying 17).isSome = true := by kernel_rfl
theorem sz17 : sizeB Try.prog 17 = some 1 := by kernel_rfl
theorem ag18 : isAggB Try.prog 18 = true := by kernel_rfl
theorem fd18_0 : fieldB Try.prog 18 0 = some (0, 1) := by kernel_rfl
theorem pl18 : placesB Try.prog 18 = some [(0, 1)] := by kernel_rfl
theorem sz18 : sizeB Try.prog 18 = some 1 := by kernel_rfl
theorem ag19 : isAggB Try.prog 19 = true := by kernel_rfl
theorem fd19_0 : fieldB Try.prog 19 0 = some (0, 1) := by kernel_rfl
theorem pl19 : placesB Try.prog 19 = some [(0, 1)] := by kernel_rfl
theorem sz19 : sizeB Try.prog 19 = some 1 := by kernel_rfl
theorem na21 : isAggB Try.prog 21 = false := by kernel_rfl
theorem us21 : (Try.prog.underlying 21).isSome = true := by kernel_rfl
theorem sz21 : sizeB Try.prog 21 = some 1 := by kernel_rfl
theorem un21 : Try.prog.underlying 21 = some (.int .i32) := by kernel_rfl
theorem na22 : isAggB Try.prog 22 = false := by kernel_rfl
theorem us22 : (Try.prog.underlying 22).isSome = true := by kernel_rfl
theorem sz22 : sizeB Try.prog 22 = some 1 := by kernel_rfl
theorem un22 : Try.prog.underlying 22 = some (.slice 3) := by kernel_rfl
theorem na23 : isAggB Try.prog 23 = false := by kernel_rfl
theorem us23 : (Try.prog.underlying 23).isSome = true := by kernel_rfl
theorem sz23 : sizeB Try.prog 23 = some 1 := by kernel_rfl
theorem un23 : Try.prog.underlying 23 = some (.slice 73) := by kernel_rfl
theorem ag24 : isAggB Try.prog 24 = true := by kernel_rfl
theorem fd24_0 : fieldB Try.prog 24 0 = some (0, 1) := by kernel_rfl
theorem fd24_1 : fieldB Try.prog 24 1 = some (1, 1) := by kernel_rfl
theorem pl24 : placesB Try.prog 24 = some [(0, 1), (1, 1)] := by kernel_rfl
theorem sz24 : sizeB Try.prog 24 = some 2 := by kernel_rfl
theorem ag25 : isAggB Try.prog 25 = true := by kernel_rfl
theorem fd25_0 : fieldB Try.prog 25 0 = some (0, 1) := by kernel_rfl
theorem fd25_1 : fieldB Try.prog 25 1 = some (1, 1) := by kernel_rfl
theorem pl25 : placesB Try.prog 25 = some [(0, 1), (1, 1)] := by kernel_rfl
theorem sz25 : sizeB Try.prog 25 = some 2 := by kernel_rfl
theorem na26 : isAggB Try.prog 26 = false := by kernel_rfl
theorem us26 : (Try.prog.underlying 26).isSome = true := by kernel_rfl
theorem sz26 : sizeB Try.prog 26 = some 1 := by kernel_rfl
theorem na27 : isAggB Try.prog 27 = false := by kernel_rfl
theorem us27 : (Try.prog.underlying 27).isSome = true := by kernel_rfl
theorem sz27 : sizeB Try.prog 27 = some 1 := by kernel_rfl
theorem na28 : isAggB Try.prog 28 = false := by kernel_rfl
theorem us28 : (Try.prog.underlying 28).isSome = true := by kernel_rfl
theorem sz28 : sizeB Try.prog 28 = some 1 := by kernel_rfl
theorem ag29 : isAggB Try.prog 29 = true := by kernel_rfl
theorem fd29_0 : fieldB Try.prog 29 0 = some (0, 1) := by kernel_rfl
theorem fd29_1 : fieldB Try.prog 29 1 = some (1, 1) := by kernel_rfl
theorem eq29 : eqOkB Try.prog 29 2 = true := by kernel_rfl
theorem pl29 : placesB Try.prog 29 = some [(0, 1), (1, 1)] := by kernel_rfl
theorem sz29 : sizeB Try.prog 29 = some 2 := by kernel_rfl
theorem ag30 : isAggB Try.prog 30 = true := by kernel_rfl
theorem fd30_0 : fieldB Try.prog 30 0 = some (0, 1) := by kernel_rfl
theorem fd30_1 : fieldB Try.prog 30 1 = some (1, 1) := by kernel_rfl
theorem eq30 : eqOkB Try.prog 30 2 = true := by kernel_rfl
theorem pl30 : placesB Try.prog 30 = some [(0, 1), (1, 1)] := by kernel_rfl
theorem sz30 : sizeB Try.prog 30 = some 2 := by kernel_rfl
theorem na31 : isAggB Try.prog 31 = false := by kernel_rfl
theorem us31 : (Try.prog.underlying 31).isSome = true := by kernel_rfl
theorem sz31 : sizeB Try.prog 31 = some 1 := by kernel_rfl
theorem un31 : Try.prog.underlying 31 = some (.int .i64) := by kernel_rfl
theorem na33 : isAggB Try.prog 33 = false := by kernel_rfl
theorem us33 : (Try.prog.underlying 33).isSome = true := by kernel_rfl
theorem sz33 : sizeB Try.prog 33 = some 1 := by kernel_rfl
theorem na34 : isAggB Try.prog 34 = false := by kernel_rfl
theorem us34 : (Try.prog.underlying 34).isSome = true := by kernel_rfl
theorem sz34 : sizeB Try.prog 34 = some 1 := by kernel_rfl
theorem na36 : isAggB Try.prog 36 = false := by kernel_rfl
theorem us36 : (Try.prog.underlying 36).isSome = true := by kernel_rfl
theorem sz36 : sizeB Try.prog 36 = some 1 := by kernel_rfl
theorem na37 : isAggB Try.prog 37 = false := by kernel_rfl
theorem us37 : (Try.prog.underlying 37).isSome = true := by kernel_rfl
theorem sz37 : sizeB Try.prog 37 = some 1 := by kernel_rfl
theorem un37 : Try.prog.underlying 37 = some (.slice 41) := by kernel_rfl
theorem na39 : isAggB Try.prog 39 = false := by kernel_rfl
theorem us39 : (Try.prog.underlying 39).isSome = true := by kernel_rfl
theorem sz39 : sizeB Try.prog 39 = some 1 := by kernel_rfl
theorem ag40 : isAggB Try.prog 40 = true := by kernel_rfl
theorem fd40_0 : fieldB Try.prog 40 0 = some (0, 1) := by kernel_rfl
theorem fd40_1 : fieldB Try.prog 40 1 = some (1, 1) := by kernel_rfl
theorem fd40_2 : fieldB Try.prog 40 2 = some (2, 1) := by kernel_rfl
theorem fd40_3 : fieldB Try.prog 40 3 = some (3, 1) := by kernel_rfl
theorem fd40_4 : fieldB Try.prog 40 4 = some (4, 1) := by kernel_rfl
theorem eq40 : eqOkB Try.prog 40 5 = true := by kernel_rfl
theorem pl40 : placesB Try.prog 40 = some [(0, 1), (1, 1), (2, 1), (3, 1), (4, 1)] := by kernel_rfl
theorem sz40 : sizeB Try.prog 40 = some 5 := by kernel_rfl
theorem ag41 : isAggB Try.prog 41 = true := by kernel_rfl
theorem fd41_0 : fieldB Try.prog 41 0 = some (0, 1) := by kernel_rfl
theorem fd41_1 : fieldB Try.prog 41 1 = some (1, 1) := by kernel_rfl
theorem fd41_2 : fieldB Try.prog 41 2 = some (2, 1) := by kernel_rfl
theorem fd41_3 : fieldB Try.prog 41 3 = some (3, 1) := by kernel_rfl
theorem fd41_4 : fieldB Try.prog 41 4 = some (4, 1) := by kernel_rfl
theorem eq41 : eqOkB Try.prog 41 5 = true := by kernel_rfl
theorem pl41 : placesB Try.prog 41 = some [(0, 1), (1, 1), (2, 1), (3, 1), (4, 1)] := by kernel_rfl
theorem sz41 : sizeB Try.prog 41 = some 5 := by kernel_rfl
theorem na42 : isAggB Try.prog 42 = false := by kernel_rfl
theorem us42 : (Try.prog.underlying 42).isSome = true := by kernel_rfl
theorem sz42 : sizeB Try.prog 42 = some 1 := by kernel_rfl
theorem na43 : isAggB Try.prog 43 = false := by kernel_rfl
theorem us43 : (Try.prog.underlying 43).isSome = true := by kernel_rfl
theorem sz43 : sizeB Try.prog 43 = some 1 := by kernel_rfl
theorem na45 : isAggB Try.prog 45 = false := by kernel_rfl
theorem us45 : (Try.prog.underlying 45).isSome = true := by kernel_rfl
theorem sz45 : sizeB Try.prog 45 = some 1 := by kernel_rfl
theorem na46 : isAggB Try.prog 46 = false := by kernel_rfl
theorem us46 : (Try.prog.underlying 46).isSome = true := by kernel_rfl
theorem sz46 : sizeB Try.prog 46 = some 1 := by kernel_rfl
theorem na47 : isAggB Try.prog 47 = false := by kernel_rfl
theorem us47 : (Try.prog.underlying 47).isSome = true := by kernel_rfl
theorem sz47 : sizeB Try.prog 47 = some 1 := by kernel_rfl
theorem na48 : isAggB Try.prog 48 = false := by kernel_rfl
theorem us48 : (Try.prog.underlying 48).isSome = true := by kernel_rfl
theorem sz48 : sizeB Try.prog 48 = some 1 := by kernel_rfl
theorem na49 : isAggB Try.prog 49 = false := by kernel_rfl
theorem us49 : (Try.prog.underlying 49).isSome = true := by kernel_rfl
theorem sz49 : sizeB Try.prog 49 = some 1 := by kernel_rfl
theorem na50 : isAggB Try.prog 50 = false := by kernel_rfl
theorem us50 : (Try.prog.underlying 50).isSome = true := by kernel_rfl
theorem sz50 : sizeB Try.prog 50 = some 1 := by kernel_rfl
theorem na51 : isAggB Try.prog 51 = false := by kernel_rfl
theorem us51 : (Try.prog.underlying 51).isSome = true := by kernel_rfl
theorem sz51 : sizeB Try.prog 51 = some 1 := by kernel_rfl
theorem na52 : isAggB Try.prog 52 = false := by kernel_rfl
theorem us52 : (Try.prog.underlying 52).isSome = true := by kernel_rfl
theorem sz52 : sizeB Try.prog 52 = some 1 := by kernel_rfl
theorem un52 : Try.prog.underlying 52 = some (.slice 25) := by kernel_rfl
theorem na53 : isAggB Try.prog 53 = false := by kernel_rfl
theorem us53 : (Try.prog.underlying 53).isSome = true := by kernel_rfl
theorem sz53 : sizeB Try.prog 53 = some 1 := by kernel_rfl
theorem na54 : isAggB Try.prog 54 = false := by kernel_rfl
theorem us54 : (Try.prog.underlying 54).isSome = true := by kernel_rfl
theorem sz54 : sizeB Try.prog 54 = some 1 := by kernel_rfl
theorem na55 : isAggB Try.prog 55 = false := by kernel_rfl
theorem us55 : (Try.prog.underlying 55).isSome = true := by kernel_rfl
theorem sz55 : sizeB Try.prog 55 = some 1 := by kernel_rfl
theorem na56 : isAggB Try.prog 56 = false := by kernel_rfl
theorem us56 : (Try.prog.underlying 56).isSome = true := by kernel_rfl
theorem sz56 : sizeB Try.prog 56 = some 1 := by kernel_rfl
theorem na57 : isAggB Try.prog 57 = false := by kernel_rfl
theorem us57 : (Try.prog.underlying 57).isSome = true := by kernel_rfl
theorem sz57 : sizeB Try.prog 57 = some 1 := by kernel_rfl
theorem na58 : isAggB Try.prog 58 = false := by kernel_rfl
theorem us58 : (Try.prog.underlying 58).isSome = true := by kernel_rfl
theorem sz58 : sizeB Try.prog 58 = some 1 := by kernel_rfl
theorem na60 : isAggB Try.prog 60 = false := by kernel_rfl
theorem us60 : (Try.prog.underlying 60).isSome = true := by kernel_rfl
theorem sz60 : sizeB Try.prog 60 = some 1 := by kernel_rfl
theorem na61 : isAggB Try.prog 61 = false := by kernel_rfl
theorem us61 : (Try.prog.underlying 61).isSome = true := by kernel_rfl
theorem sz61 : sizeB Try.prog 61 = some 1 := by kernel_rfl
theorem na62 : isAggB Try.prog 62 = false := by kernel_rfl
theorem us62 : (Try.prog.underlying 62).isSome = true := by kernel_rfl
theorem sz62 : sizeB Try.prog 62 = some 1 := by kernel_rfl
theorem na63 : isAggB Try.prog 63 = false := by kernel_rfl
theorem us63 : (Try.prog.underlying 63).isSome = true := by kernel_rfl
theorem sz63 : sizeB Try.prog 63 = some 1 := by kernel_rfl
theorem un63 : Try.prog.underlying 63 = some (.slice 22) := by kernel_rfl
theorem na64 : isAggB Try.prog 64 = false := by kernel_rfl
theorem us64 : (Try.prog.underlying 64).isSome = true := by kernel_rfl
theorem sz64 : sizeB Try.prog 64 = some 1 := by kernel_rfl
theorem un64 : Try.prog.underlying 64 = some (.slice 4) := by kernel_rfl
theorem na65 : isAggB Try.prog 65 = false := by kernel_rfl
theorem us65 : (Try.prog.underlying 65).isSome = true := by kernel_rfl
theorem sz65 : sizeB Try.prog 65 = some 1 := by kernel_rfl
theorem na66 : isAggB Try.prog 66 = false := by kernel_rfl
theorem us66 : (Try.prog.underlying 66).isSome = true := by kernel_rfl
theorem sz66 : sizeB Try.prog 66 = some 1 := by kernel_rfl
theorem na67 : isAggB Try.prog 67 = false := by kernel_rfl
theorem us67 : (Try.prog.underlying 67).isSome = true := by kernel_rfl
theorem sz67 : sizeB Try.prog 67 = some 1 := by kernel_rfl
theorem na68 : isAggB Try.prog 68 = false := by kernel_rfl
theorem us68 : (Try.prog.underlying 68).isSome = true := by kernel_rfl
theorem sz68 : sizeB Try.prog 68 = some 1 := by kernel_rfl
theorem un68 : Try.prog.underlying 68 = some (.slice 99) := by kernel_rfl
theorem na69 : isAggB Try.prog 69 = false := by kernel_rfl
theorem us69 : (Try.prog.underlying 69).isSome = true := by kernel_rfl
theorem sz69 : sizeB Try.prog 69 = some 1 := by kernel_rfl
theorem na70 : isAggB Try.prog 70 = false := by kernel_rfl
theorem us70 : (Try.prog.underlying 70).isSome = true := by kernel_rfl
theorem sz70 : sizeB Try.prog 70 = some 1 := by kernel_rfl
theorem na71 : isAggB Try.prog 71 = false := by kernel_rfl
theorem us71 : (Try.prog.underlying 71).isSome = true := by kernel_rfl
theorem sz71 : sizeB Try.prog 71 = some 1 := by kernel_rfl
theorem ag72 : isAggB Try.prog 72 = true := by kernel_rfl
theorem fd72_0 : fieldB Try.prog 72 0 = some (0, 1) := by kernel_rfl
theorem fd72_1 : fieldB Try.prog 72 1 = some (1, 1) := by kernel_rfl
theorem fd72_2 : fieldB Try.prog 72 2 = some (2, 5) := by kernel_rfl
theorem eq72 : eqOkB Try.prog 72 7 = true := by kernel_rfl
theorem pl72 : placesB Try.prog 72 = some [(0, 1), (1, 1), (2, 5)] := by kernel_rfl
theorem sz72 : sizeB Try.prog 72 = some 7 := by kernel_rfl
theorem ag73 : isAggB Try.prog 73 = true := by kernel_rfl
theorem fd73_0 : fieldB Try.prog 73 0 = some (0, 1) := by kernel_rfl
theorem fd73_1 : fieldB Try.prog 73 1 = some (1, 1) := by kernel_rfl
theorem fd73_2 : fieldB Try.prog 73 2 = some (2, 5) := by kernel_rfl
theorem eq73 : eqOkB Try.prog 73 7 = true := by kernel_rfl
theorem pl73 : placesB Try.prog 73 = some [(0, 1), (1, 1), (2, 5)] := by kernel_rfl
theorem sz73 : sizeB Try.prog 73 = some 7 := by kernel_rfl
theorem na74 : isAggB Try.prog 74 = false := by kernel_rfl
theorem us74 : (Try.prog.underlying 74).isSome = true := by kernel_rfl
theorem sz74 : sizeB Try.prog 74 = some 1 := by kernel_rfl
theorem na75 : isAggB Try.prog 75 = false := by kernel_rfl
theorem us75 : (Try.prog.underlying 75).isSome = true := by kernel_rfl
theorem sz75 : sizeB Try.prog 75 = some 1 := by kernel_rfl
theorem ag76 : isAggB Try.prog 76 = true := by kernel_rfl
theorem fd76_0 : fieldB Try.prog 76 0 = some (0, 1) := by kernel_rfl
theorem fd76_1 : fieldB Try.prog 76 1 = some (1, 1) := by kernel_rfl
theorem fd76_2 : fieldB Try.prog 76 2 = some (2, 1) := by kernel_rfl
theorem fd76_3 : fieldB Try.prog 76 3 = some (3, 2) := by kernel_rfl
theorem fd76_4 : fieldB Try.prog 76 4 = some (5, 1) := by kernel_rfl
theorem fd76_5 : fieldB Try.prog 76 5 = some (6, 2) := by kernel_rfl
theorem pl76 : placesB Try.prog 76 = some [(0, 1), (1, 1), (2, 1), (3, 2), (5, 1), (6, 2)] := by kernel_rfl
theorem sz76 : sizeB Try.prog 76 = some 8 := by kernel_rfl
theorem ag77 : isAggB Try.prog 77 = true := by kernel_rfl
theorem fd77_0 : fieldB Try.prog 77 0 = some (0, 1) := by kernel_rfl
theorem fd77_1 : fieldB Try.prog 77 1 = some (1, 1) := by kernel_rfl
theorem fd77_2 : fieldB Try.prog 77 2 = some (2, 1) := by kernel_rfl
theorem fd77_3 : fieldB Try.prog 77 3 = some (3, 2) := by kernel_rfl
theorem fd77_4 : fieldB Try.prog 77 4 = some (5, 1) := by kernel_rfl
theorem fd77_5 : fieldB Try.prog 77 5 = some (6, 2) := by kernel_rfl
theorem pl77 : placesB Try.prog 77 = some [(0, 1), (1, 1), (2, 1), (3, 2), (5, 1), (6, 2)] := by kernel_rfl
theorem sz77 : sizeB Try.prog 77 = some 8 := by kernel_rfl
theorem na79 : isAggB Try.prog 79 = false := by kernel_rfl
theorem us79 : (Try.prog.underlying 79).isSome = true := by kernel_rfl
theorem sz79 : sizeB Try.prog 79 = some 1 := by kernel_rfl
theorem na80 : isAggB Try.prog 80 = false := by kernel_rfl
theorem us80 : (Try.prog.underlying 80).isSome = true := by kernel_rfl
theorem sz80 : sizeB Try.prog 80 = some 1 := by kernel_rfl
theorem na81 : isAggB Try.prog 81 = false := by kernel_rfl
theorem us81 : (Try.prog.underlying 81).isSome = true := by kernel_rfl
theorem sz81 : sizeB Try.prog 81 = some 1 := by kernel_rfl
theorem na82 : isAggB Try.prog 82 = false := by kernel_rfl
theorem us82 : (Try.prog.underlying 82).isSome = true := by kernel_rfl
theorem sz82 : sizeB Try.prog 82 = some 1 := by kernel_rfl
theorem un82 : Try.prog.underlying 82 = some (.int .u64) := by kernel_rfl
theorem na83 : isAggB Try.prog 83 = false := by kernel_rfl
theorem us83 : (Try.prog.underlying 83).isSome = true := by kernel_rfl
theorem sz83 : sizeB Try.prog 83 = some 1 := by kernel_rfl
theorem na84 : isAggB Try.prog 84 = false := by kernel_rfl
theorem us84 : (Try.prog.underlying 84).isSome = true := by kernel_rfl
theorem sz84 : sizeB Try.prog 84 = some 1 := by kernel_rfl
theorem un84 : Try.prog.underlying 84 = some (.slice 83) := by kernel_rfl
theorem na85 : isAggB Try.prog 85 = false := by kernel_rfl
theorem us85 : (Try.prog.underlying 85).isSome = true := by kernel_rfl
theorem sz85 : sizeB Try.prog 85 = some 1 := by kernel_rfl
theorem na86 : isAggB Try.prog 86 = false := by kernel_rfl
theorem us86 : (Try.prog.underlying 86).isSome = true := by kernel_rfl
theorem sz86 : sizeB Try.prog 86 = some 1 := by kernel_rfl
theorem na87 : isAggB Try.prog 87 = false := by kernel_rfl
theorem us87 : (Try.prog.underlying 87).isSome = true := by kernel_rfl
theorem sz87 : sizeB Try.prog 87 = some 1 := by kernel_rfl
theorem um87 : Try.prog.underlying 87 = some (.map 41 3) := by kernel_rfl
theorem na88 : isAggB Try.prog 88 = false := by kernel_rfl
theorem us88 : (Try.prog.underlying 88).isSome = true := by kernel_rfl
theorem sz88 : sizeB Try.prog 88 = some 1 := by kernel_rfl
theorem na89 : isAggB Try.prog 89 = false := by kernel_rfl
theorem us89 : (Try.prog.underlying 89).isSome = true := by kernel_rfl
theorem sz89 : sizeB Try.prog 89 = some 1 := by kernel_rfl
theorem na91 : isAggB Try.prog 91 = false := by kernel_rfl
theorem us91 : (Try.prog.underlying 91).isSome = true := by kernel_rfl
theorem sz91 : sizeB Try.prog 91 = some 1 := by kernel_rfl
theorem na92 : isAggB Try.prog 92 = false := by kernel_rfl
theorem us92 : (Try.prog.underlying 92).isSome = true := by kernel_rfl
theorem sz92 : sizeB Try.prog 92 = some 1 := by kernel_rfl
theorem ag93 : isAggB Try.prog 93 = true := by kernel_rfl
theorem fd93_0 : fieldB Try.prog 93 0 = some (0, 1) := by kernel_rfl
theorem fd93_1 : fieldB Try.prog 93 1 = some (1, 1) := by kernel_rfl
theorem pl93 : placesB Try.prog 93 = some [(0, 1), (1, 1)] := by kernel_rfl
theorem sz93 : sizeB Try.prog 93 = some 2 := by kernel_rfl
theorem ag94 : isAggB Try.prog 94 = true := by kernel_rfl
theorem fd94_0 : fieldB Try.prog 94 0 = some (0, 1) := by kernel_rfl
theorem fd94_1 : fieldB Try.prog 94 1 = some (1, 1) := by kernel_rfl
theorem pl94 : placesB Try.prog 94 = some [(0, 1), (1, 1)] := by kernel_rfl
theorem sz94 : sizeB Try.prog 94 = some 2 := by kernel_rfl
theorem na95 : isAggB Try.prog 95 = false := by kernel_rfl
theorem us95 : (Try.prog.underlying 95).isSome = true := by kernel_rfl
theorem sz95 : sizeB Try.prog 95 = some 1 := by kernel_rfl
theorem na96 : isAggB Try.prog 96 = false := by kernel_rfl
theorem us96 : (Try.prog.underlying 96).isSome = true := by kernel_rfl
theorem sz96 : sizeB Try.prog 96 = some 1 := by kernel_rfl
theorem na97 : isAggB Try.prog 97 = false := by kernel_rfl
theorem us97 : (Try.prog.underlying 97).isSome = true := by kernel_rfl
theorem sz97 : sizeB Try.prog 97 = some 1 := by kernel_rfl
theorem ag98 : isAggB Try.prog 98 = true := by kernel_rfl
theorem fd98_0 : fieldB Try.prog 98 0 = some (0, 1) := by kernel_rfl
theorem fd98_1 : fieldB Try.prog 98 1 = some (1, 1) := by kernel_rfl
theorem fd98_2 : fieldB Try.prog 98 2 = some (2, 1) := by kernel_rfl
theorem fd98_3 : fieldB Try.prog 98 3 = some (3, 1) := by kernel_rfl
theorem fd98_4 : fieldB Try.prog 98 4 = some (4, 1) := by kernel_rfl
theorem eq98 : eqOkB Try.prog 98 5 = true := by kernel_rfl
theorem pl98 : placesB Try.prog 98 = some [(0, 1), (1, 1), (2, 1), (3, 1), (4, 1)] := by kernel_rfl
theorem sz98 : sizeB Try.prog 98 = some 5 := by kernel_rfl
theorem ag99 : isAggB Try.prog 99 = true := by kernel_rfl
theorem fd99_0 : fieldB Try.prog 99 0 = some (0, 1) := by kernel_rfl
theorem fd99_1 : fieldB Try.prog 99 1 = some (1, 1) := by kernel_rfl
theorem fd99_2 : fieldB Try.prog 99 2 = some (2, 1) := by kernel_rfl
theorem fd99_3 : fieldB Try.prog 99 3 = some (3, 1) := by kernel_rfl
theorem fd99_4 : fieldB Try.prog 99 4 = some (4, 1) := by kernel_rfl
theorem eq99 : eqOkB Try.prog 99 5 = true := by kernel_rfl
theorem pl99 : placesB Try.prog 99 = some [(0, 1), (1, 1), (2, 1), (3, 1), (4, 1)] := by kernel_rfl
theorem sz99 : sizeB Try.prog 99 = some 5 := by kernel_rfl
theorem na100 : isAggB Try.prog 100 = false := by kernel_rfl
theorem us100 : (Try.prog.underlying 100).isSome = true := by kernel_rfl
theorem sz100 : sizeB Try.prog 100 = some 1 := by kernel_rfl
theorem na101 : isAggB Try.prog 101 = false := by kernel_rfl
theorem us101 : (Try.prog.underlying 101).isSome = true := by kernel_rfl
theorem sz101 : sizeB Try.prog 101 = some 1 := by kernel_rfl
theorem na102 : isAggB Try.prog 102 = false := by kernel_rfl
theorem us102 : (Try.prog.underlying 102).isSome = true := by kernel_rfl
theorem sz102 : sizeB Try.prog 102 = some 1 := by kernel_rfl
theorem na103 : isAggB Try.prog 103 = false := by kernel_rfl
theorem us103 : (Try.prog.underlying 103).isSome = true := by kernel_rfl
theorem sz103 : sizeB Try.prog 103 = some 1 := by kernel_rfl
theorem na104 : isAggB Try.prog 104 = false := by kernel_rfl
theorem us104 : (Try.prog.underlying 104).isSome = true := by kernel_rfl
theorem sz104 : sizeB Try.prog 104 = some 1 := by kernel_rfl
theorem na105 : isAggB Try.prog 105 = false := by kernel_rfl
theorem us105 : (Try.prog.underlying 105).isSome = true := by kernel_rfl
theorem sz105 : sizeB Try.prog 105 = some 1 := by kernel_rfl
theorem na106 : isAggB Try.prog 106 = false := by kernel_rfl
theorem us106 : (Try.prog.underlying 106).isSome = true := by kernel_rfl
theorem sz106 : sizeB Try.prog 106 = some 1 := by kernel_rfl
theorem na107 : isAggB Try.prog 107 = false := by kernel_rfl
theorem us107 : (Try.prog.underlying 107).isSome = true := by kernel_rfl
theorem sz107 : sizeB Try.prog 107 = some 1 := by kernel_rfl
theorem na108 : isAggB Try.prog 108 = false := by kernel_rfl
theorem us108 : (Try.prog.underlying 108).isSome = true := by kernel_rfl
theorem sz108 : sizeB Try.prog 108 = some 1 := by kernel_rfl
theorem na109 : isAggB Try.prog 109 = false := by kernel_rfl
theorem us109 : (Try.prog.underlying 109).isSome = true := by kernel_rfl
theorem sz109 : sizeB Try.prog 109 = some 1 := by kernel_rfl
theorem na110 : isAggB Try.prog 110 = false := by kernel_rfl
theorem us110 : (Try.prog.underlying 110).isSome = true := by kernel_rfl
theorem sz110 : sizeB Try.prog 110 = some 1 := by kernel_rfl
theorem na111 : isAggB Try.prog 111 = false := by kernel_rfl
theorem us111 : (Try.prog.underlying 111).isSome = true := by kernel_rfl
theorem sz111 : sizeB Try.prog 111 = some 1 := by kernel_rfl
theorem na112 : isAggB Try.prog 112 = false := by kernel_rfl
theorem us112 : (Try.prog.underlying 112).isSome = true := by kernel_rfl
theorem sz112 : sizeB Try.prog 112 = some 1 := by kernel_rfl
theorem un112 : Try.prog.underlying 112 = some (.int .i64) := by kernel_rfl
theorem na114 : isAggB Try.prog 114 = false := by kernel_rfl
theorem us114 : (Try.prog.underlying 114).isSome = true := by kernel_rfl
theorem sz114 : sizeB Try.prog 114 = some 1 := by kernel_rfl
theorem na115 : isAggB Try.prog 115 = false := by kernel_rfl
theorem us115 : (Try.prog.underlying 115).isSome = true := by kernel_rfl
theorem sz115 : sizeB Try.prog 115 = some 1 := by kernel_rfl
theorem na116 : isAggB Try.prog 116 = false := by kernel_rfl
theorem us116 : (Try.prog.underlying 116).isSome = true := by kernel_rfl
theorem sz116 : sizeB Try.prog 116 = some 1 := by kernel_rfl
theorem na118 : isAggB Try.prog 118 = false := by kernel_rfl
theorem us118 : (Try.prog.underlying 118).isSome = true := by kernel_rfl
theorem sz118 : sizeB Try.prog 118 = some 1 := by kernel_rfl
theorem na119 : isAggB Try.prog 119 = false := by kernel_rfl
theorem us119 : (Try.prog.underlying 119).isSome = true := by kernel_rfl
theorem sz119 : sizeB Try.prog 119 = some 1 := by kernel_rfl
theorem na120 : isAggB Try.prog 120 = false := by kernel_rfl
theorem us120 : (Try.prog.underlying 120).isSome = true := by kernel_rfl
theorem sz120 : sizeB Try.prog 120 = some 1 := by kernel_rfl
theorem un120 : Try.prog.underlying 120 = some (.int .u32) := by kernel_rfl
theorem na121 : isAggB Try.prog 121 = false := by kernel_rfl
theorem us121 : (Try.prog.underlying 121).isSome = true := by kernel_rfl
theorem sz121 : sizeB Try.prog 121 = some 1 := by kernel_rfl
theorem na122 : isAggB Try.prog 122 = false := by kernel_rfl
theorem us122 : (Try.prog.underlying 122).isSome = true := by kernel_rfl
theorem sz122 : sizeB Try.prog 122 = some 1 := by kernel_rfl
theorem un122 : Try.prog.underlying 122 = some (.int .u64) := by kernel_rfl
theorem na123 : isAggB Try.prog 123 = false := by kernel_rfl
theorem us123 : (Try.prog.underlying 123).isSome = true := by kernel_rfl
theorem sz123 : sizeB Try.prog 123 = some 1 := by kernel_rfl
theorem un123 : Try.prog.underlying 123 = some (.int .u64) := by kernel_rfl
theorem na124 : isAggB Try.prog 124 = false := by kernel_rfl
theorem us124 : (Try.prog.underlying 124).isSome = true := by kernel_rfl
theorem sz124 : sizeB Try.prog 124 = some 1 := by kernel_rfl
theorem na125 : isAggB Try.prog 125 = false := by kernel_rfl
theorem us125 : (Try.prog.underlying 125).isSome = true := by kernel_rfl
theorem sz125 : sizeB Try.prog 125 = some 1 := by kernel_rfl
theorem na126 : isAggB Try.prog 126 = false := by kernel_rfl
theorem us126 : (Try.prog.underlying 126).isSome = true := by kernel_rfl
theorem sz126 : sizeB Try.prog 126 = some 1 := by kernel_rfl
theorem na127 : isAggB Try.prog 127 = false := by kernel_rfl
theorem us127 : (Try.prog.underlying 127).isSome = true := by kernel_rfl
theorem sz127 : sizeB Try.prog 127 = some 1 := by kernel_rfl
theorem na128 : isAggB Try.prog 128 = false := by kernel_rfl
theorem us128 : (Try.prog.underlying 128).isSome = true := by kernel_rfl
theorem sz128 : sizeB Try.prog 128 = some 1 := by kernel_rfl
theorem na130 : isAggB Try.prog 130 = false := by kernel_rfl
theorem us130 : (Try.prog.underlying 130).isSome = true := by kernel_rfl
theorem sz130 : sizeB Try.prog 130 = some 1 := by kernel_rfl
theorem na131 : isAggB Try.prog 131 = false := by kernel_rfl
theorem us131 : (Try.prog.underlying 131).isSome = true := by kernel_rfl
theorem sz131 : sizeB Try.prog 131 = some 1 := by kernel_rfl
theorem ag132 : isAggB Try.prog 132 = true := by kernel_rfl
theorem fd132_0 : fieldB Try.prog 132 0 = some (0, 1) := by kernel_rfl
theorem fd132_1 : fieldB Try.prog 132 1 = some (1, 1) := by kernel_rfl
theorem fd132_2 : fieldB Try.prog 132 2 = some (2, 1) := by kernel_rfl
theorem fd132_3 : fieldB Try.prog 132 3 = some (3, 1) := by kernel_rfl
theorem pl132 : placesB Try.prog 132 = some [(0, 1), (1, 1), (2, 1), (3, 1)] := by kernel_rfl
theorem sz132 : sizeB Try.prog 132 = some 4 := by kernel_rfl
theorem ag133 : isAggB Try.prog 133 = true := by kernel_rfl
theorem fd133_0 : fieldB Try.prog 133 0 = some (0, 1) := by kernel_rfl
theorem fd133_1 : fieldB Try.prog 133 1 = some (1, 1) := by kernel_rfl
theorem fd133_2 : fieldB Try.prog 133 2 = some (2, 1) := by kernel_rfl
theorem fd133_3 : fieldB Try.prog 133 3 = some (3, 1) := by kernel_rfl
theorem pl133 : placesB Try.prog 133 = some [(0, 1), (1, 1), (2, 1), (3, 1)] := by kernel_rfl
theorem sz133 : sizeB Try.prog 133 = some 4 := by kernel_rfl
theorem ag135 : isAggB Try.prog 135 = true := by kernel_rfl
theorem ag136 : isAggB Try.prog 136 = true := by kernel_rfl
theorem na137 : isAggB Try.prog 137 = false := by kernel_rfl
theorem us137 : (Try.prog.underlying 137).isSome = true := by kernel_rfl
theorem sz137 : sizeB Try.prog 137 = some 1 := by kernel_rfl
theorem na138 : isAggB Try.prog 138 = false := by kernel_rfl
theorem us138 : (Try.prog.underlying 138).isSome = true := by kernel_rfl
theorem sz138 : sizeB Try.prog 138 = some 1 := by kernel_rfl
theorem un138 : Try.prog.underlying 138 = some (.int .u8) := by kernel_rfl
theorem na139 : isAggB Try.prog 139 = false := by kernel_rfl
theorem us139 : (Try.prog.underlying 139).isSome = true := by kernel_rfl
theorem sz139 : sizeB Try.prog 139 = some 1 := by kernel_rfl
theorem un139 : Try.prog.underlying 139 = some (.int .u8) := by kernel_rfl
theorem na140 : isAggB Try.prog 140 = false := by kernel_rfl
theorem us140 : (Try.prog.underlying 140).isSome = true := by kernel_rfl
theorem sz140 : sizeB Try.prog 140 = some 1 := by kernel_rfl
theorem na141 : isAggB Try.prog 141 = false := by kernel_rfl
theorem us141 : (Try.prog.underlying 141).isSome = true := by kernel_rfl
theorem sz141 : sizeB Try.prog 141 = some 1 := by kernel_rfl
theorem na142 : isAggB Try.prog 142 = false := by kernel_rfl
theorem us142 : (Try.prog.underlying 142).isSome = true := by kernel_rfl
theorem sz142 : sizeB Try.prog 142 = some 1 := by kernel_rfl
theorem un142 : Try.prog.underlying 142 = some (.int .i32) := by kernel_rfl
theorem na143 : isAggB Try.prog 143 = false := by kernel_rfl
theorem us143 : (Try.prog.underlying 143).isSome = true := by kernel_rfl
theorem sz143 : sizeB Try.prog 143 = some 1 := by kernel_rfl
theorem un143 : Try.prog.underlying 143 = some (.int .i32) := by kernel_rfl
theorem ag144 : isAggB Try.prog 144 = true := by kernel_rfl
theorem fd144_0 : fieldB Try.prog 144 0 = some (0, 1) := by kernel_rfl
theorem fd144_1 : fieldB Try.prog 144 1 = some (1, 1) := by kernel_rfl
theorem fd144_2 : fieldB Try.prog 144 2 = some (2, 1) := by kernel_rfl
theorem fd144_3 : fieldB Try.prog 144 3 = some (3, 1) := by kernel_rfl
theorem fd144_4 : fieldB Try.prog 144 4 = some (4, 1) := by kernel_rfl
theorem fd144_5 : fieldB Try.prog 144 5 = some (5, 1) := by kernel_rfl
theorem fd144_6 : fieldB Try.prog 144 6 = some (6, 1) := by kernel_rfl
theorem fd144_7 : fieldB Try.prog 144 7 = some (7, 1) := by kernel_rfl
theorem fd144_8 : fieldB Try.prog 144 8 = some (8, 1) := by kernel_rfl
theorem fd144_9 : fieldB Try.prog 144 9 = some (9, 1) := by kernel_rfl
theorem fd144_10 : fieldB Try.prog 144 10 = some (10, 1) := by kernel_rfl
theorem pl144 : placesB Try.prog 144 = some [(0, 1), (1, 1), (2, 1), (3, 1), (4, 1), (5, 1), (6, 1), (7, 1), (8, 1), (9, 1), (10, 1)] := by kernel_rfl
theorem sz144 : sizeB Try.prog 144 = some 11 := by kernel_rfl
theorem ag145 : isAggB Try.prog 145 = true := by kernel_rfl
theorem fd145_0 : fieldB Try.prog 145 0 = some (0, 1) := by kernel_rfl
theorem fd145_1 : fieldB Try.prog 145 1 = some (1, 1) := by kernel_rfl
theorem fd145_2 : fieldB Try.prog 145 2 = some (2, 1) := by kernel_rfl
theorem fd145_3 : fieldB Try.prog 145 3 = some (3, 1) := by kernel_rfl
theorem fd145_4 : fieldB Try.prog 145 4 = some (4, 1) := by kernel_rfl
theorem fd145_5 : fieldB Try.prog 145 5 = some (5, 1) := by kernel_rfl
theorem fd145_6 : fieldB Try.prog 145 6 = some (6, 1) := by kernel_rfl
theorem fd145_7 : fieldB Try.prog 145 7 = some (7, 1) := by kernel_rfl
theorem fd145_8 : fieldB Try.prog 145 8 = some (8, 1) := by kernel_rfl
theorem fd145_9 : fieldB Try.prog 145 9 = some (9, 1) := by kernel_rfl
theorem fd145_10 : fieldB Try.prog 145 10 = some (10, 1) := by kernel_rfl
theorem pl145 : placesB Try.prog 145 = some [(0, 1), (1, 1), (2, 1), (3, 1), (4, 1), (5, 1), (6, 1), (7, 1), (8, 1), (9, 1), (10, 1)] := by kernel_rfl
theorem sz145 : sizeB Try.prog 145 = some 11 := by kernel_rfl
theorem in2 : (Try.prog.info? 2).map (fun i => (i.zero, i.size, i.bytes)) = some (some (.int .i64 0), 1, 8) := by kernel_rfl
theorem zr2 : zeroB Try.prog 2 = some (.int .i64 0) := by kernel_rfl
theorem in3 : (Try.prog.info? 3).map (fun i => (i.zero, i.size, i.bytes)) = some (some (.int .i64 0), 1, 8) := by kernel_rfl
theorem zr3 : zeroB Try.prog 3 = some (.int .i64 0) := by kernel_rfl
theorem in4 : (Try.prog.info? 4).map (fun i => (i.zero, i.size, i.bytes)) = some (some (.bool false), 1, 1) := by kernel_rfl
theorem zr4 : zeroB Try.prog 4 = some (.bool false) := by kernel_rfl
theorem un4 : Try.prog.underlying 4 = some .bool := by kernel_rfl
theorem in5 : (Try.prog.info? 5).map (fun i => (i.zero, i.size, i.bytes)) = some (some (.int .u8 0), 1, 1) := by kernel_rfl
theorem zr5 : zeroB Try.prog 5 = some (.int .u8 0) := by kernel_rfl
theorem in6 : (Try.prog.info? 6).map (fun i => (i.zero, i.size, i.bytes)) = some (some (.int .u8 0), 1, 1) := by kernel_rfl
theorem zr6 : zeroB Try.prog 6 = some (.int .u8 0) := by kernel_rfl
theorem in7 : (Try.prog.info? 7).map (fun i => (i.zero, i.size, i.bytes)) = some (some (.agg #[.int .i64 0, .int .i64 0, .bool false, .int .u8 0]), 4, 24) := by kernel_rfl
theorem zr7 : zeroB Try.prog 7 = some (.agg #[.int .i64 0, .int .i64 0, .bool false, .int .u8 0]) := by kernel_rfl
theorem in8 : (Try.prog.info? 8).map (fun i => (i.zero, i.size, i.bytes)) = some (some (.agg #[.int .i64 0, .int .i64 0, .bool false, .int .u8 0]), 4, 24) := by kernel_rfl
theorem zr8 : zeroB Try.prog 8 = some (.agg #[.int .i64 0, .int .i64 0, .bool false, .int .u8 0]) := by kernel_rfl
theorem in12 : (Try.prog.info? 12).map (fun i => (i.zero, i.size, i.bytes)) = some (some (.int .u64 0), 1, 8) := by kernel_rfl
theorem zr12 : zeroB Try.prog 12 = some (.int .u64 0) := by kernel_rfl
theorem in15 : (Try.prog.info? 15).map (fun i => (i.zero, i.size, i.bytes)) = some (some (.pointer none), 1, 8) := by kernel_rfl
theorem zr15 : zeroB Try.prog 15 = some (.pointer none) := by kernel_rfl
theorem in16 : (Try.prog.info? 16).map (fun i => (i.zero, i.size, i.bytes)) = some (some (.pointer none), 1, 8) := by kernel_rfl
theorem zr16 : zeroB Try.prog 16 = some (.pointer none) := by kernel_rfl
theorem in17 : (Try.prog.info? 17).map (fun i => (i.zero, i.size, i.bytes)) = some (some (.pointer none), 1, 8) := by kernel_rfl
theorem zr17 : zeroB Try.prog 17 = some (.pointer none) := by kernel_rfl
theorem in18 : (Try.prog.info? 18).map (fun i => (i.zero, i.size, i.bytes)) = some (some (.agg #[.pointer none]), 1, 8) := by kernel_rfl
theorem zr18 : zeroB Try.prog 18 = some (.agg #[.pointer none]) := by kernel_rfl
theorem in19 : (Try.prog.info? 19).map (fun i => (i.zero, i.size, i.bytes)) = some (some (.agg #[.pointer none]), 1, 8) := by kernel_rfl
theorem zr19 : zeroB Try.prog 19 = some (.agg #[.pointer none]) := by kernel_rfl
theorem in21 : (Try.prog.info? 21).map (fun i => (i.zero, i.size, i.bytes)) = some (some (.int .i32 0), 1, 4) := by kernel_rfl
theorem zr21 : zeroB Try.prog 21 = some (.int .i32 0) := by kernel_rfl
theorem in22 : (Try.prog.info? 22).map (fun i => (i.zero, i.size, i.bytes)) = some (some (.slice none 0 0), 1, 24) := by kernel_rfl
theorem zr22 : zeroB Try.prog 22 = some (.slice none 0 0) := by kernel_rfl
theorem in23 : (Try.prog.info? 23).map (fun i => (i.zero, i.size, i.bytes)) = some (some (.slice none 0 0), 1, 24) := by kernel_rfl
theorem zr23 : zeroB Try.prog 23 = some (.slice none 0 0) := by kernel_rfl
theorem in24 : (Try.prog.info? 24).map (fun i => (i.zero, i.size, i.bytes)) = some (some (.agg #[.int .i64 0, .slice none 0 0]), 2, 32) := by kernel_rfl
theorem zr24 : zeroB Try.prog 24 = some (.agg #[.int .i64 0, .slice none 0 0]) := by kernel_rfl
theorem in25 : (Try.prog.info? 25).map (fun i => (i.zero, i.size, i.bytes)) = some (some (.agg #[.int .i64 0, .slice none 0 0]), 2, 32) := by kernel_rfl
theorem zr25 : zeroB Try.prog 25 = some (.agg #[.int .i64 0, .slice none 0 0]) := by kernel_rfl
theorem in27 : (Try.prog.info? 27).map (fun i => (i.zero, i.size, i.bytes)) = some (some (.pointer none), 1, 8) := by kernel_rfl
theorem zr27 : zeroB Try.prog 27 = some (.pointer none) := by kernel_rfl
theorem in29 : (Try.prog.info? 29).map (fun i => (i.zero, i.size, i.bytes)) = some (some (.agg #[.int .i64 0, .int .i64 0]), 2, 16) := by kernel_rfl
theorem zr29 : zeroB Try.prog 29 = some (.agg #[.int .i64 0, .int .i64 0]) := by kernel_rfl
theorem in30 : (Try.prog.info? 30).map (fun i => (i.zero, i.size, i.bytes)) = some (some (.agg #[.int .i64 0, .int .i64 0]), 2, 16) := by kernel_rfl
theorem zr30 : zeroB Try.prog 30 = some (.agg #[.int .i64 0, .int .i64 0]) := by kernel_rfl
theorem in31 : (Try.prog.info? 31).map (fun i => (i.zero, i.size, i.bytes)) = some (some (.int .i64 0), 1, 8) := by kernel_rfl
theorem zr31 : zeroB Try.prog 31 = some (.int .i64 0) := by kernel_rfl
theorem in37 : (Try.prog.info? 37).map (fun i => (i.zero, i.size, i.bytes)) = some (some (.slice none 0 0), 1, 24) := by kernel_rfl
theorem zr37 : zeroB Try.prog 37 = some (.slice none 0 0) := by kernel_rfl
theorem in40 : (Try.prog.info? 40).map (fun i => (i.zero, i.size, i.bytes)) = some (some (.agg #[.int .i64 0, .int .i64 0, .int .i64 0, .int .i64 0, .int .i64 0]), 5, 40) := by kernel_rfl
theorem zr40 : zeroB Try.prog 40 = some (.agg #[.int .i64 0, .int .i64 0, .int .i64 0, .int .i64 0, .int .i64 0]) := by kernel_rfl
theorem in41 : (Try.prog.info? 41).map (fun i => (i.zero, i.size, i.bytes)) = some (some (.agg #[.int .i64 0, .int .i64 0, .int .i64 0, .int .i64 0, .int .i64 0]), 5, 40) := by kernel_rfl
theorem zr41 : zeroB Try.prog 41 = some (.agg #[.int .i64 0, .int .i64 0, .int .i64 0, .int .i64 0, .int .i64 0]) := by kernel_rfl
theorem in52 : (Try.prog.info? 52).map (fun i => (i.zero, i.size, i.bytes)) = some (some (.slice none 0 0), 1, 24) := by kernel_rfl
theorem zr52 : zeroB Try.prog 52 = some (.slice none 0 0) := by kernel_rfl
theorem in63 : (Try.prog.info? 63).map (fun i => (i.zero, i.size, i.bytes)) = some (some (.slice none 0 0), 1, 24) := by kernel_rfl
theorem zr63 : zeroB Try.prog 63 = some (.slice none 0 0) := by kernel_rfl
theorem in64 : (Try.prog.info? 64).map (fun i => (i.zero, i.size, i.bytes)) = some (some (.slice none 0 0), 1, 24) := by kernel_rfl
theorem zr64 : zeroB Try.prog 64 = some (.slice none 0 0) := by kernel_rfl
theorem in68 : (Try.prog.info? 68).map (fun i => (i.zero, i.size, i.bytes)) = some (some (.slice none 0 0), 1, 24) := by kernel_rfl
theorem zr68 : zeroB Try.prog 68 = some (.slice none 0 0) := by kernel_rfl
theorem in72 : (Try.prog.info? 72).map (fun i => (i.zero, i.size, i.bytes)) = some (some (.agg #[.int .i64 0, .int .i64 0, .int .i64 0, .int .i64 0, .int .i64 0, .int .i64 0, .int .i64 0]), 7, 56) := by kernel_rfl
theorem zr72 : zeroB Try.prog 72 = some (.agg #[.int .i64 0, .int .i64 0, .int .i64 0, .int .i64 0, .int .i64 0, .int .i64 0, .int .i64 0]) := by kernel_rfl
theorem in73 : (Try.prog.info? 73).map (fun i => (i.zero, i.size, i.bytes)) = some (some (.agg #[.int .i64 0, .int .i64 0, .int .i64 0, .int .i64 0, .int .i64 0, .int .i64 0, .int .i64 0]), 7, 56) := by kernel_rfl
theorem zr73 : zeroB Try.prog 73 = some (.agg #[.int .i64 0, .int .i64 0, .int .i64 0, .int .i64 0, .int .i64 0, .int .i64 0, .int .i64 0]) := by kernel_rfl
theorem in76 : (Try.prog.info? 76).map (fun i => (i.zero, i.size, i.bytes)) = some (some (.agg #[.int .i64 0, .int .i64 0, .int .i64 0, .int .i64 0, .int .i64 0, .slice none 0 0, .int .i64 0, .int .i64 0]), 8, 80) := by kernel_rfl
theorem zr76 : zeroB Try.prog 76 = some (.agg #[.int .i64 0, .int .i64 0, .int .i64 0, .int .i64 0, .int .i64 0, .slice none 0 0, .int .i64 0, .int .i64 0]) := by kernel_rfl
theorem in77 : (Try.prog.info? 77).map (fun i => (i.zero, i.size, i.bytes)) = some (some (.agg #[.int .i64 0, .int .i64 0, .int .i64 0, .int .i64 0, .int .i64 0, .slice none 0 0, .int .i64 0, .int .i64 0]), 8, 80) := by kernel_rfl
theorem zr77 : zeroB Try.prog 77 = some (.agg #[.int .i64 0, .int .i64 0, .int .i64 0, .int .i64 0, .int .i64 0, .slice none 0 0, .int .i64 0, .int .i64 0]) := by kernel_rfl
theorem in81 : (Try.prog.info? 81).map (fun i => (i.zero, i.size, i.bytes)) = some (some (.pointer none), 1, 8) := by kernel_rfl
theorem zr81 : zeroB Try.prog 81 = some (.pointer none) := by kernel_rfl
theorem in82 : (Try.prog.info? 82).map (fun i => (i.zero, i.size, i.bytes)) = some (some (.int .u64 0), 1, 8) := by kernel_rfl
theorem zr82 : zeroB Try.prog 82 = some (.int .u64 0) := by kernel_rfl
theorem in83 : (Try.prog.info? 83).map (fun i => (i.zero, i.size, i.bytes)) = some (some (.pointer none), 1, 8) := by kernel_rfl
theorem zr83 : zeroB Try.prog 83 = some (.pointer none) := by kernel_rfl
theorem in84 : (Try.prog.info? 84).map (fun i => (i.zero, i.size, i.bytes)) = some (some (.slice none 0 0), 1, 24) := by kernel_rfl
theorem zr84 : zeroB Try.prog 84 = some (.slice none 0 0) := by kernel_rfl
theorem in87 : (Try.prog.info? 87).map (fun i => (i.zero, i.size, i.bytes)) = some (some (.map none), 1, 8) := by kernel_rfl
theorem zr87 : zeroB Try.prog 87 = some (.map none) := by kernel_rfl
theorem in93 : (Try.prog.info? 93).map (fun i => (i.zero, i.size, i.bytes)) = some (some (.agg #[.slice none 0 0, .int .i64 0]), 2, 32) := by kernel_rfl
theorem zr93 : zeroB Try.prog 93 = some (.agg #[.slice none 0 0, .int .i64 0]) := by kernel_rfl
theorem in94 : (Try.prog.info? 94).map (fun i => (i.zero, i.size, i.bytes)) = some (some (.agg #[.slice none 0 0, .int .i64 0]), 2, 32) := by kernel_rfl
theorem zr94 : zeroB Try.prog 94 = some (.agg #[.slice none 0 0, .int .i64 0]) := by kernel_rfl
theorem in98 : (Try.prog.info? 98).map (fun i => (i.zero, i.size, i.bytes)) = some (some (.agg #[.int .i64 0, .int .i64 0, .int .i64 0, .int .i64 0, .int .i64 0]), 5, 40) := by kernel_rfl
theorem zr98 : zeroB Try.prog 98 = some (.agg #[.int .i64 0, .int .i64 0, .int .i64 0, .int .i64 0, .int .i64 0]) := by kernel_rfl
theorem in99 : (Try.prog.info? 99).map (fun i => (i.zero, i.size, i.bytes)) = some (some (.agg #[.int .i64 0, .int .i64 0, .int .i64 0, .int .i64 0, .int .i64 0]), 5, 40) := by kernel_rfl
theorem zr99 : zeroB Try.prog 99 = some (.agg #[.int .i64 0, .int .i64 0, .int .i64 0, .int .i64 0, .int .i64 0]) := by kernel_rfl
theorem in112 : (Try.prog.info? 112).map (fun i => (i.zero, i.size, i.bytes)) = some (some (.int .i64 0), 1, 8) := by kernel_rfl
theorem zr112 : zeroB Try.prog 112 = some (.int .i64 0) := by kernel_rfl
theorem in120 : (Try.prog.info? 120).map (fun i => (i.zero, i.size, i.bytes)) = some (some (.int .u32 0), 1, 4) := by kernel_rfl
theorem zr120 : zeroB Try.prog 120 = some (.int .u32 0) := by kernel_rfl
theorem in122 : (Try.prog.info? 122).map (fun i => (i.zero, i.size, i.bytes)) = some (some (.int .u64 0), 1, 8) := by kernel_rfl
theorem zr122 : zeroB Try.prog 122 = some (.int .u64 0) := by kernel_rfl
theorem in123 : (Try.prog.info? 123).map (fun i => (i.zero, i.size, i.bytes)) = some (some (.int .u64 0), 1, 8) := by kernel_rfl
theorem zr123 : zeroB Try.prog 123 = some (.int .u64 0) := by kernel_rfl
theorem in128 : (Try.prog.info? 128).map (fun i => (i.zero, i.size, i.bytes)) = some (some (.pointer none), 1, 8) := by kernel_rfl
theorem zr128 : zeroB Try.prog 128 = some (.pointer none) := by kernel_rfl
theorem in138 : (Try.prog.info? 138).map (fun i => (i.zero, i.size, i.bytes)) = some (some (.int .u8 0), 1, 1) := by kernel_rfl
theorem zr138 : zeroB Try.prog 138 = some (.int .u8 0) := by kernel_rfl
theorem in139 : (Try.prog.info? 139).map (fun i => (i.zero, i.size, i.bytes)) = some (some (.int .u8 0), 1, 1) := by kernel_rfl
theorem zr139 : zeroB Try.prog 139 = some (.int .u8 0) := by kernel_rfl
theorem in141 : (Try.prog.info? 141).map (fun i => (i.zero, i.size, i.bytes)) = some (some (.pointer none), 1, 8) := by kernel_rfl
theorem zr141 : zeroB Try.prog 141 = some (.pointer none) := by kernel_rfl
theorem in142 : (Try.prog.info? 142).map (fun i => (i.zero, i.size, i.bytes)) = some (some (.int .i32 0), 1, 4) := by kernel_rfl
theorem zr142 : zeroB Try.prog 142 = some (.int .i32 0) := by kernel_rfl
theorem in143 : (Try.prog.info? 143).map (fun i => (i.zero, i.size, i.bytes)) = some (some (.int .i32 0), 1, 4) := by kernel_rfl
theorem zr143 : zeroB Try.prog 143 = some (.int .i32 0) := by kernel_rfl
theorem mixed : Try.prog.follows .mixedOrders = true := by kernel_rfl
end Go.Proofs.Ytadkcelipefpmaa
