/- Closed facts on the types of this translation, each reckoned by the kernel. Written by a small program. -/
import Derived.Test.YtipblbjkbeiflaaKDet
import Derived.Test.YtipblbjkbeiflaaRows
import Derived.KernelRfl
namespace Go.Proofs.Ytipblbjkbeiflaa
theorem na1 : isAggB Try.prog 1 = false := by kernel_rfl
theorem us1 : (Try.prog.underlying 1).isSome = true := by kernel_rfl
theorem sz1 : sizeB Try.prog 1 = some 1 := by kernel_rfl
theorem na2 : isAggB Try.prog 2 = false := by kernel_rfl
theorem us2 : (Try.prog.underlying 2).isSome = true := by kernel_rfl
theorem sz2 : sizeB Try.prog 2 = some 1 := by kernel_rfl
theorem un2 : Try.prog.underlying 2 = some (.int .i64) := by kernel_rfl
theorem na3 : isAggB Try.prog 3 = false := by kernel_rfl
theorem us3 : (Try.prog.underlying 3).isSome = true := by kernel_rfl
theorem sz3 : sizeB Try.prog 3 = some 1 := by kernel_rfl
theorem un3 : Try.prog.underlying 3 = some (.int .i64) := by kernel_rfl
theorem na4 : isAggB Try.prog 4 = false := by kernel_rfl
theorem us4 : (Try.prog.underlying 4).isSome = true := by kernel_rfl
theorem sz4 : sizeB Try.prog 4 = some 1 := by kernel_rfl
theorem na5 : isAggB Try.prog 5 = false := by kernel_rfl
theorem us5 : (Try.prog.underlying 5).isSome = true := by kernel_rfl
theorem sz5 : sizeB Try.prog 5 = some 1 := by kernel_rfl
theorem un5 : Try.prog.underlying 5 = some (.int .u8) := by kernel_rfl
theorem na6 : isAggB Try.prog 6 = false := by kernel_rfl
theorem us6 : (Try.prog.underlying 6).isSome = true := by kernel_rfl
theorem sz6 : sizeB Try.prog 6 = some 1 := by kernel_rfl
theorem un6 : Try.prog.underlying 6 = some (.int .u8) := by kernel_rfl
theorem ag7 : isAggB Try.prog 7 = true := by kernel_rfl
theorem fd7_0 : fieldB Try.prog 7 0 = some (0, 1) := by kernel_rfl
theorem fd7_1 : fieldB Try.prog 7 1 = some (1, 1) := by kernel_rfl
theorem fd7_2 : fieldB Try.prog 7 2 = some (2, 1) := by kernel_rfl
theorem fd7_3 : fieldB Try.prog 7 3 = some (3, 1) := by kernel_rfl
theorem pl7 : placesB Try.prog 7 = some [(0, 1), (1, 1), (2, 1), (3, 1)] := by kernel_rfl
theorem sz7 : sizeB Try.prog 7 = some 4 := by kernel_rfl
theorem ag8 : isAggB Try.prog 8 = true := by kernel_rfl
theorem fd8_0 : fieldB Try.prog 8 0 = some (0, 1) := by kernel_rfl
theorem fd8_1 : fieldB Try.prog 8 1 = some (1, 1) := by kernel_rfl
theorem fd8_2 : fieldB Try.prog 8 2 = some (2, 1) := by kernel_rfl
theorem fd8_3 : fieldB Try.prog 8 3 = some (3, 1) := by kernel_rfl
theorem pl8 : placesB Try.prog 8 = some [(0, 1), (1, 1), (2, 1), (3, 1)] := by kernel_rfl
theorem sz8 : sizeB Try.prog 8 = some 4 := by kernel_rfl
theorem na9 : isAggB Try.prog 9 = false := by kernel_rfl
theorem us9 : (Try.prog.underlying 9).isSome = true := by kernel_rfl
theorem sz9 : sizeB Try.prog 9 = some 1 := by kernel_rfl
theorem na10 : isAggB Try.prog 10 = false := by kernel_rfl
theorem us10 : (Try.prog.underlying 10).isSome = true := by kernel_rfl
theorem sz10 : sizeB Try.prog 10 = some 1 := by kernel_rfl
theorem na11 : isAggB Try.prog 11 = false := by kernel_rfl
theorem us11 : (Try.prog.underlying 11).isSome = true := by kernel_rfl
theorem sz11 : sizeB Try.prog 11 = some 1 := by kernel_rfl
theorem na12 : isAggB Try.prog 12 = false := by kernel_rfl
theorem us12 : (Try.prog.underlying 12).isSome = true := by kernel_rfl
theorem sz12 : sizeB Try.prog 12 = some 1 := by kernel_rfl
theorem un12 : Try.prog.underlying 12 = some (.int .u64) := by kernel_rfl
theorem ag13 : isAggB Try.prog 13 = true := by kernel_rfl
theorem fd13_0 : fieldB Try.prog 13 0 = some (0, 1) := by kernel_rfl
theorem fd13_1 : fieldB Try.prog 13 1 = some (1, 1) := by kernel_rfl
theorem pl13 : placesB Try.prog 13 = some [(0, 1), (1, 1)] := by kernel_rfl
theorem sz13 : sizeB Try.prog 13 = some 2 := by kernel_rfl
theorem ag14 : isAggB Try.prog 14 = true := by kernel_rfl
theorem fd14_0 : fieldB Try.prog 14 0 = some (0, 1) := by kernel_rfl
theorem fd14_1 : fieldB Try.prog 14 1 = some (1, 1) := by kernel_rfl
theorem pl14 : placesB Try.prog 14 = some [(0, 1), (1, 1)] := by kernel_rfl
theorem sz14 : sizeB Try.prog 14 = some 2 := by kernel_rfl
theorem na15 : isAggB Try.prog 15 = false := by kernel_rfl
theorem us15 : (Try.prog.underlying 15).isSome = true := by kernel_rfl
theorem sz15 : sizeB Try.prog 15 = some 1 := by kernel_rfl
theorem na16 : isAggB Try.prog 16 = false := by kernel_rfl
theorem us16 : (Try.prog.underlying 16).isSome = true := by kernel_rfl
theorem sz16 : sizeB Try.prog 16 = some 1 := by kernel_rfl
theorem na17 : isAggB Try.prog 17 = false := by kernel_rfl
theorem us17 : (Try.prog.underlying 17).isSome = true := by kernel_rfl
theorem sz17 : sizeB Try.prog 17 = some 1 := by kernel_rfl
theorem ag18 : isAggB Try.prog 18 = true := by kernel_rfl
theorem fd18_0 : fieldB Try.prog 18 0 = some (0, 1) := by kernel_rfl
theorem pl18 : placesB Try.prog 18 = some [(0, 1)] := by kernel_rfl
theorem sz18 : sizeB Try.prog 18 = some 1 := by kernel_rfl
theorem ag19 : isAggB Try.prog 19 = true := by kernel_rfl
theorem fd19_0 : fieldB Try.prog 19 0 = some (0, 1) := by kernel_rfl
theorem pl19 : placesB Try.prog 19 = some [(0, 1)] := by kernel_rfl
theorem sz19 : sizeB Try.prog 19 = some 1 := by kernel_rfl
theorem na21 : isAggB Try.prog 21 = false := by kernel_rfl
theorem us21 : (Try.prog.underlying 21).isSome = true := by kernel_rfl
theorem sz21 : sizeB Try.prog 21 = some 1 := by kernel_rfl
theorem un21 : Try.prog.underlying 21 = some (.int .i32) := by kernel_rfl
theorem na22 : isAggB Try.prog 22 = false := by kernel_rfl
theorem us22 : (Try.prog.underlying 22).isSome = true := by kernel_rfl
theorem sz22 : sizeB Try.prog 22 = some 1 := by kernel_rfl
theorem un22 : Try.prog.underlying 22 = some (.slice 3) := by kernel_rfl
theorem na23 : isAggB Try.prog 23 = false := by kernel_rfl
theorem us23 : (Try.prog.underlying 23).isSome = true := by kernel_rfl
theorem sz23 : sizeB Try.prog 23 = some 1 := by kernel_rfl
theorem un23 : Try.prog.underlying 23 = some (.slice 48) := by kernel_rfl
theorem ag24 : isAggB Try.prog 24 = true := by kernel_rfl
theorem fd24_0 : fieldB Try.prog 24 0 = some (0, 1) := by kernel_rfl
theorem fd24_1 : fieldB Try.prog 24 1 = some (1, 1) := by kernel_rfl
theorem pl24 : placesB Try.prog 24 = some [(0, 1), (1, 1)] := by kernel_rfl
theorem sz24 : sizeB Try.prog 24 = some 2 := by kernel_rfl
theorem ag25 : isAggB Try.prog 25 = true := by kernel_rfl
theorem fd25_0 : fieldB Try.prog 25 0 = some (0, 1) := by kernel_rfl
theorem fd25_1 : fieldB Try.prog 25 1 = some (1, 1) := by kernel_rfl
theorem pl25 : placesB Try.prog 25 = some [(0, 1), (1, 1)] := by kernel_rfl
theorem sz25 : sizeB Try.prog 25 = some 2 := by kernel_rfl
theorem na27 : isAggB Try.prog 27 = false := by kernel_rfl
theorem us27 : (Try.prog.underlying 27).isSome = true := by kernel_rfl
theorem sz27 : sizeB Try.prog 27 = some 1 := by kernel_rfl
theorem na28 : isAggB Try.prog 28 = false := by kernel_rfl
theorem us28 : (Try.prog.underlying 28).isSome = true := by kernel_rfl
theorem sz28 : sizeB Try.prog 28 = some 1 := by kernel_rfl
theorem un28 : Try.prog.underlying 28 = some (.slice 25) := by kernel_rfl
theorem ag29 : isAggB Try.prog 29 = true := by kernel_rfl
theorem fd29_0 : fieldB Try.prog 29 0 = some (0, 1) := by kernel_rfl
theorem fd29_1 : fieldB Try.prog 29 1 = some (1, 1) := by kernel_rfl
theorem eq29 : eqOkB Try.prog 29 2 = true := by kernel_rfl
theorem pl29 : placesB Try.prog 29 = some [(0, 1), (1, 1)] := by kernel_rfl
theorem sz29 : sizeB Try.prog 29 = some 2 := by kernel_rfl
theorem ag30 : isAggB Try.prog 30 = true := by kernel_rfl
theorem fd30_0 : fieldB Try.prog 30 0 = some (0, 1) := by kernel_rfl
theorem fd30_1 : fieldB Try.prog 30 1 = some (1, 1) := by kernel_rfl
theorem eq30 : eqOkB Try.prog 30 2 = true := by kernel_rfl
theorem pl30 : placesB Try.prog 30 = some [(0, 1), (1, 1)] := by kernel_rfl
theorem sz30 : sizeB Try.prog 30 = some 2 := by kernel_rfl
theorem ag31 : isAggB Try.prog 31 = true := by kernel_rfl
theorem fd31_0 : fieldB Try.prog 31 0 = some (0, 1) := by kernel_rfl
theorem fd31_1 : fieldB Try.prog 31 1 = some (1, 1) := by kernel_rfl
theorem fd31_2 : fieldB Try.prog 31 2 = some (2, 1) := by kernel_rfl
theorem fd31_3 : fieldB Try.prog 31 3 = some (3, 2) := by kernel_rfl
theorem fd31_4 : fieldB Try.prog 31 4 = some (5, 1) := by kernel_rfl
theorem fd31_5 : fieldB Try.prog 31 5 = some (6, 2) := by kernel_rfl
theorem pl31 : placesB Try.prog 31 = some [(0, 1), (1, 1), (2, 1), (3, 2), (5, 1), (6, 2)] := by kernel_rfl
theorem sz31 : sizeB Try.prog 31 = some 8 := by kernel_rfl
theorem ag32 : isAggB Try.prog 32 = true := by kernel_rfl
theorem fd32_0 : fieldB Try.prog 32 0 = some (0, 1) := by kernel_rfl
theorem fd32_1 : fieldB Try.prog 32 1 = some (1, 1) := by kernel_rfl
theorem fd32_2 : fieldB Try.prog 32 2 = some (2, 1) := by kernel_rfl
theorem fd32_3 : fieldB Try.prog 32 3 = some (3, 2) := by kernel_rfl
theorem fd32_4 : fieldB Try.prog 32 4 = some (5, 1) := by kernel_rfl
theorem fd32_5 : fieldB Try.prog 32 5 = some (6, 2) := by kernel_rfl
theorem pl32 : placesB Try.prog 32 = some [(0, 1), (1, 1), (2, 1), (3, 2), (5, 1), (6, 2)] := by kernel_rfl
theorem sz32 : sizeB Try.prog 32 = some 8 := by kernel_rfl
theorem na33 : isAggB Try.prog 33 = false := by kernel_rfl
theorem us33 : (Try.prog.underlying 33).isSome = true := by kernel_rfl
theorem sz33 : sizeB Try.prog 33 = some 1 := by kernel_rfl
theorem un33 : Try.prog.underlying 33 = some (.int .i64) := by kernel_rfl
theorem na35 : isAggB Try.prog 35 = false := by kernel_rfl
theorem us35 : (Try.prog.underlying 35).isSome = true := by kernel_rfl
theorem sz35 : sizeB Try.prog 35 = some 1 := by kernel_rfl
theorem na36 : isAggB Try.prog 36 = false := by kernel_rfl
theorem us36 : (Try.prog.underlying 36).isSome = true := by kernel_rfl
theorem sz36 : sizeB Try.prog 36 = some 1 := by kernel_rfl
theorem na37 : isAggB Try.prog 37 = false := by kernel_rfl
theorem us37 : (Try.prog.underlying 37).isSome = true := by kernel_rfl
theorem sz37 : sizeB Try.prog 37 = some 1 := by kernel_rfl
theorem na38 : isAggB Try.prog 38 = false := by kernel_rfl
theorem us38 : (Try.prog.underlying 38).isSome = true := by kernel_rfl
theorem sz38 : sizeB Try.prog 38 = some 1 := by kernel_rfl
theorem na40 : isAggB Try.prog 40 = false := by kernel_rfl
theorem us40 : (Try.prog.underlying 40).isSome = true := by kernel_rfl
theorem sz40 : sizeB Try.prog 40 = some 1 := by kernel_rfl
theorem na41 : isAggB Try.prog 41 = false := by kernel_rfl
theorem us41 : (Try.prog.underlying 41).isSome = true := by kernel_rfl
theorem sz41 : sizeB Try.prog 41 = some 1 := by kernel_rfl
theorem na42 : isAggB Try.prog 42 = false := by kernel_rfl
theorem us42 : (Try.prog.underlying 42).isSome = true := by kernel_rfl
theorem sz42 : sizeB Try.prog 42 = some 1 := by kernel_rfl
theorem na43 : isAggB Try.prog 43 = false := by kernel_rfl
theorem us43 : (Try.prog.underlying 43).isSome = true := by kernel_rfl
theorem sz43 : sizeB Try.prog 43 = some 1 := by kernel_rfl
theorem na44 : isAggB Try.prog 44 = false := by kernel_rfl
theorem us44 : (Try.prog.underlying 44).isSome = true := by kernel_rfl
theorem sz44 : sizeB Try.prog 44 = some 1 := by kernel_rfl
theorem ag45 : isAggB Try.prog 45 = true := by kernel_rfl
theorem fd45_0 : fieldB Try.prog 45 0 = some (0, 1) := by kernel_rfl
theorem fd45_1 : fieldB Try.prog 45 1 = some (1, 1) := by kernel_rfl
theorem fd45_2 : fieldB Try.prog 45 2 = some (2, 1) := by kernel_rfl
theorem fd45_3 : fieldB Try.prog 45 3 = some (3, 1) := by kernel_rfl
theorem fd45_4 : fieldB Try.prog 45 4 = some (4, 1) := by kernel_rfl
theorem eq45 : eqOkB Try.prog 45 5 = true := by kernel_rfl
theorem pl45 : placesB Try.prog 45 = some [(0, 1), (1, 1), (2, 1), (3, 1), (4, 1)] := by kernel_rfl
theorem sz45 : sizeB Try.prog 45 = some 5 := by kernel_rfl
theorem ag46 : isAggB Try.prog 46 = true := by kernel_rfl
theorem fd46_0 : fieldB Try.prog 46 0 = some (0, 1) := by kernel_rfl
theorem fd46_1 : fieldB Try.prog 46 1 = some (1, 1) := by kernel_rfl
theorem fd46_2 : fieldB Try.prog 46 2 = some (2, 1) := by kernel_rfl
theorem fd46_3 : fieldB Try.prog 46 3 = some (3, 1) := by kernel_rfl
theorem fd46_4 : fieldB Try.prog 46 4 = some (4, 1) := by kernel_rfl
theorem eq46 : eqOkB Try.prog 46 5 = true := by kernel_rfl
theorem pl46 : placesB Try.prog 46 = some [(0, 1), (1, 1), (2, 1), (3, 1), (4, 1)] := by kernel_rfl
theorem sz46 : sizeB Try.prog 46 = some 5 := by kernel_rfl
theorem ag47 : isAggB Try.prog 47 = true := by kernel_rfl
theorem fd47_0 : fieldB Try.prog 47 0 = some (0, 1) := by kernel_rfl
theorem fd47_1 : fieldB Try.prog 47 1 = some (1, 1) := by kernel_rfl
theorem fd47_2 : fieldB Try.prog 47 2 = some (2, 5) := by kernel_rfl
theorem eq47 : eqOkB Try.prog 47 7 = true := by kernel_rfl
theorem pl47 : placesB Try.prog 47 = some [(0, 1), (1, 1), (2, 5)] := by kernel_rfl
theorem sz47 : sizeB Try.prog 47 = some 7 := by kernel_rfl
theorem ag48 : isAggB Try.prog 48 = true := by kernel_rfl
theorem fd48_0 : fieldB Try.prog 48 0 = some (0, 1) := by kernel_rfl
theorem fd48_1 : fieldB Try.prog 48 1 = some (1, 1) := by kernel_rfl
theorem fd48_2 : fieldB Try.prog 48 2 = some (2, 5) := by kernel_rfl
theorem eq48 : eqOkB Try.prog 48 7 = true := by kernel_rfl
theorem pl48 : placesB Try.prog 48 = some [(0, 1), (1, 1), (2, 5)] := by kernel_rfl
theorem sz48 : sizeB Try.prog 48 = some 7 := by kernel_rfl
theorem na49 : isAggB Try.prog 49 = false := by kernel_rfl
theorem us49 : (Try.prog.underlying 49).isSome = true := by kernel_rfl
theorem sz49 : sizeB Try.prog 49 = some 1 := by kernel_rfl
theorem na51 : isAggB Try.prog 51 = false := by kernel_rfl
theorem us51 : (Try.prog.underlying 51).isSome = true := by kernel_rfl
theorem sz51 : sizeB Try.prog 51 = some 1 := by kernel_rfl
theorem na52 : isAggB Try.prog 52 = false := by kernel_rfl
theorem us52 : (Try.prog.underlying 52).isSome = true := by kernel_rfl
theorem sz52 : sizeB Try.prog 52 = some 1 := by kernel_rfl
theorem na53 : isAggB Try.prog 53 = false := by kernel_rfl
theorem us53 : (Try.prog.underlying 53).isSome = true := by kernel_rfl
theorem sz53 : sizeB Try.prog 53 = some 1 := by kernel_rfl
theorem un53 : Try.prog.underlying 53 = some (.slice 46) := by kernel_rfl
theorem na55 : isAggB Try.prog 55 = false := by kernel_rfl
theorem us55 : (Try.prog.underlying 55).isSome = true := by kernel_rfl
theorem sz55 : sizeB Try.prog 55 = some 1 := by kernel_rfl
theorem na56 : isAggB Try.prog 56 = false := by kernel_rfl
theorem us56 : (Try.prog.underlying 56).isSome = true := by kernel_rfl
theorem sz56 : sizeB Try.prog 56 = some 1 := by kernel_rfl
theorem na57 : isAggB Try.prog 57 = false := by kernel_rfl
theorem us57 : (Try.prog.underlying 57).isSome = true := by kernel_rfl
theorem sz57 : sizeB Try.prog 57 = some 1 := by kernel_rfl
theorem na58 : isAggB Try.prog 58 = false := by kernel_rfl
theorem us58 : (Try.prog.underlying 58).isSome = true := by kernel_rfl
theorem sz58 : sizeB Try.prog 58 = some 1 := by kernel_rfl
theorem na59 : isAggB Try.prog 59 = false := by kernel_rfl
theorem us59 : (Try.prog.underlying 59).isSome = true := by kernel_rfl
theorem sz59 : sizeB Try.prog 59 = some 1 := by kernel_rfl
theorem na60 : isAggB Try.prog 60 = false := by kernel_rfl
theorem us60 : (Try.prog.underlying 60).isSome = true := by kernel_rfl
theorem sz60 : sizeB Try.prog 60 = some 1 := by kernel_rfl
theorem na61 : isAggB Try.prog 61 = false := by kernel_rfl
theorem us61 : (Try.prog.underlying 61).isSome = true := by kernel_rfl
theorem sz61 : sizeB Try.prog 61 = some 1 := by kernel_rfl
theorem na62 : isAggB Try.prog 62 = false := by kernel_rfl
theorem us62 : (Try.prog.underlying 62).isSome = true := by kernel_rfl
theorem sz62 : sizeB Try.prog 62 = some 1 := by kernel_rfl
theorem na63 : isAggB Try.prog 63 = false := by kernel_rfl
theorem us63 : (Try.prog.underlying 63).isSome = true := by kernel_rfl
theorem sz63 : sizeB Try.prog 63 = some 1 := by kernel_rfl
theorem na64 : isAggB Try.prog 64 = false := by kernel_rfl
theorem us64 : (Try.prog.underlying 64).isSome = true := by kernel_rfl
theorem sz64 : sizeB Try.prog 64 = some 1 := by kernel_rfl
theorem un64 : Try.prog.underlying 64 = some (.int .u64) := by kernel_rfl
theorem na65 : isAggB Try.prog 65 = false := by kernel_rfl
theorem us65 : (Try.prog.underlying 65).isSome = true := by kernel_rfl
theorem sz65 : sizeB Try.prog 65 = some 1 := by kernel_rfl
theorem na66 : isAggB Try.prog 66 = false := by kernel_rfl
theorem us66 : (Try.prog.underlying 66).isSome = true := by kernel_rfl
theorem sz66 : sizeB Try.prog 66 = some 1 := by kernel_rfl
theorem un66 : Try.prog.underlying 66 = some (.slice 65) := by kernel_rfl
theorem na67 : isAggB Try.prog 67 = false := by kernel_rfl
theorem us67 : (Try.prog.underlying 67).isSome = true := by kernel_rfl
theorem sz67 : sizeB Try.prog 67 = some 1 := by kernel_rfl
theorem na68 : isAggB Try.prog 68 = false := by kernel_rfl
theorem us68 : (Try.prog.underlying 68).isSome = true := by kernel_rfl
theorem sz68 : sizeB Try.prog 68 = some 1 := by kernel_rfl
theorem na69 : isAggB Try.prog 69 = false := by kernel_rfl
theorem us69 : (Try.prog.underlying 69).isSome = true := by kernel_rfl
theorem sz69 : sizeB Try.prog 69 = some 1 := by kernel_rfl
theorem na71 : isAggB Try.prog 71 = false := by kernel_rfl
theorem us71 : (Try.prog.underlying 71).isSome = true := by kernel_rfl
theorem sz71 : sizeB Try.prog 71 = some 1 := by kernel_rfl
theorem na72 : isAggB Try.prog 72 = false := by kernel_rfl
theorem us72 : (Try.prog.underlying 72).isSome = true := by kernel_rfl
theorem sz72 : sizeB Try.prog 72 = some 1 := by kernel_rfl
theorem na73 : isAggB Try.prog 73 = false := by kernel_rfl
theorem us73 : (Try.prog.underlying 73).isSome = true := by kernel_rfl
theorem sz73 : sizeB Try.prog 73 = some 1 := by kernel_rfl
theorem na74 : isAggB Try.prog 74 = false := by kernel_rfl
theorem us74 : (Try.prog.underlying 74).isSome = true := by kernel_rfl
theorem sz74 : sizeB Try.prog 74 = some 1 := by kernel_rfl
theorem na75 : isAggB Try.prog 75 = false := by kernel_rfl
theorem us75 : (Try.prog.underlying 75).isSome = true := by kernel_rfl
theorem sz75 : sizeB Try.prog 75 = some 1 := by kernel_rfl
theorem na76 : isAggB Try.prog 76 = false := by kernel_rfl
theorem us76 : (Try.prog.underlying 76).isSome = true := by kernel_rfl
theorem sz76 : sizeB Try.prog 76 = some 1 := by kernel_rfl
theorem na77 : isAggB Try.prog 77 = false := by kernel_rfl
theorem us77 : (Try.prog.underlying 77).isSome = true := by kernel_rfl
theorem sz77 : sizeB Try.prog 77 = some 1 := by kernel_rfl
theorem na78 : isAggB Try.prog 78 = false := by kernel_rfl
theorem us78 : (Try.prog.underlying 78).isSome = true := by kernel_rfl
theorem sz78 : sizeB Try.prog 78 = some 1 := by kernel_rfl
theorem na79 : isAggB Try.prog 79 = false := by kernel_rfl
theorem us79 : (Try.prog.underlying 79).isSome = true := by kernel_rfl
theorem sz79 : sizeB Try.prog 79 = some 1 := by kernel_rfl
theorem na80 : isAggB Try.prog 80 = false := by kernel_rfl
theorem us80 : (Try.prog.underlying 80).isSome = true := by kernel_rfl
theorem sz80 : sizeB Try.prog 80 = some 1 := by kernel_rfl
theorem na81 : isAggB Try.prog 81 = false := by kernel_rfl
theorem us81 : (Try.prog.underlying 81).isSome = true := by kernel_rfl
theorem sz81 : sizeB Try.prog 81 = some 1 := by kernel_rfl
theorem na82 : isAggB Try.prog 82 = false := by kernel_rfl
theorem us82 : (Try.prog.underlying 82).isSome = true := by kernel_rfl
theorem sz82 : sizeB Try.prog 82 = some 1 := by kernel_rfl
theorem na83 : isAggB Try.prog 83 = false := by kernel_rfl
theorem us83 : (Try.prog.underlying 83).isSome = true := by kernel_rfl
theorem sz83 : sizeB Try.prog 83 = some 1 := by kernel_rfl
theorem na85 : isAggB Try.prog 85 = false := by kernel_rfl
theorem us85 : (Try.prog.underlying 85).isSome = true := by kernel_rfl
theorem sz85 : sizeB Try.prog 85 = some 1 := by kernel_rfl
theorem na86 : isAggB Try.prog 86 = false := by kernel_rfl
theorem us86 : (Try.prog.underlying 86).isSome = true := by kernel_rfl
theorem sz86 : sizeB Try.prog 86 = some 1 := by kernel_rfl
theorem ag87 : isAggB Try.prog 87 = true := by kernel_rfl
theorem fd87_0 : fieldB Try.prog 87 0 = some (0, 1) := by kernel_rfl
theorem fd87_1 : fieldB Try.prog 87 1 = some (1, 1) := by kernel_rfl
theorem pl87 : placesB Try.prog 87 = some [(0, 1), (1, 1)] := by kernel_rfl
theorem sz87 : sizeB Try.prog 87 = some 2 := by kernel_rfl
theorem ag88 : isAggB Try.prog 88 = true := by kernel_rfl
theorem fd88_0 : fieldB Try.prog 88 0 = some (0, 1) := by kernel_rfl
theorem fd88_1 : fieldB Try.prog 88 1 = some (1, 1) := by kernel_rfl
theorem pl88 : placesB Try.prog 88 = some [(0, 1), (1, 1)] := by kernel_rfl
theorem sz88 : sizeB Try.prog 88 = some 2 := by kernel_rfl
theorem na89 : isAggB Try.prog 89 = false := by kernel_rfl
theorem us89 : (Try.prog.underlying 89).isSome = true := by kernel_rfl
theorem sz89 : sizeB Try.prog 89 = some 1 := by kernel_rfl
theorem na90 : isAggB Try.prog 90 = false := by kernel_rfl
theorem us90 : (Try.prog.underlying 90).isSome = true := by kernel_rfl
theorem sz90 : sizeB Try.prog 90 = some 1 := by kernel_rfl
theorem na91 : isAggB Try.prog 91 = false := by kernel_rfl
theorem us91 : (Try.prog.underlying 91).isSome = true := by kernel_rfl
theorem sz91 : sizeB Try.prog 91 = some 1 := by kernel_rfl
theorem na92 : isAggB Try.prog 92 = false := by kernel_rfl
theorem us92 : (Try.prog.underlying 92).isSome = true := by kernel_rfl
theorem sz92 : sizeB Try.prog 92 = some 1 := by kernel_rfl
theorem na93 : isAggB Try.prog 93 = false := by kernel_rfl
theorem us93 : (Try.prog.underlying 93).isSome = true := by kernel_rfl
theorem sz93 : sizeB Try.prog 93 = some 1 := by kernel_rfl
theorem na94 : isAggB Try.prog 94 = false := by kernel_rfl
theorem us94 : (Try.prog.underlying 94).isSome = true := by kernel_rfl
theorem sz94 : sizeB Try.prog 94 = some 1 := by kernel_rfl
theorem na95 : isAggB Try.prog 95 = false := by kernel_rfl
theorem us95 : (Try.prog.underlying 95).isSome = true := by kernel_rfl
theorem sz95 : sizeB Try.prog 95 = some 1 := by kernel_rfl
theorem na96 : isAggB Try.prog 96 = false := by kernel_rfl
theorem us96 : (Try.prog.underlying 96).isSome = true := by kernel_rfl
theorem sz96 : sizeB Try.prog 96 = some 1 := by kernel_rfl
theorem na97 : isAggB Try.prog 97 = false := by kernel_rfl
theorem us97 : (Try.prog.underlying 97).isSome = true := by kernel_rfl
theorem sz97 : sizeB Try.prog 97 = some 1 := by kernel_rfl
theorem un97 : Try.prog.underlying 97 = some (.int .i64) := by kernel_rfl
theorem na99 : isAggB Try.prog 99 = false := by kernel_rfl
theorem us99 : (Try.prog.underlying 99).isSome = true := by kernel_rfl
theorem sz99 : sizeB Try.prog 99 = some 1 := by kernel_rfl
theorem na100 : isAggB Try.prog 100 = false := by kernel_rfl
theorem us100 : (Try.prog.underlying 100).isSome = true := by kernel_rfl
theorem sz100 : sizeB Try.prog 100 = some 1 := by kernel_rfl
theorem na101 : isAggB Try.prog 101 = false := by kernel_rfl
theorem us101 : (Try.prog.underlying 101).isSome = true := by kernel_rfl
theorem sz101 : sizeB Try.prog 101 = some 1 := by kernel_rfl
theorem na103 : isAggB Try.prog 103 = false := by kernel_rfl
theorem us103 : (Try.prog.underlying 103).isSome = true := by kernel_rfl
theorem sz103 : sizeB Try.prog 103 = some 1 := by kernel_rfl
theorem na104 : isAggB Try.prog 104 = false := by kernel_rfl
theorem us104 : (Try.prog.underlying 104).isSome = true := by kernel_rfl
theorem sz104 : sizeB Try.prog 104 = some 1 := by kernel_rfl
theorem na105 : isAggB Try.prog 105 = false := by kernel_rfl
theorem us105 : (Try.prog.underlying 105).isSome = true := by kernel_rfl
theorem sz105 : sizeB Try.prog 105 = some 1 := by kernel_rfl
theorem un105 : Try.prog.underlying 105 = some (.int .u32) := by kernel_rfl
theorem na106 : isAggB Try.prog 106 = false := by kernel_rfl
theorem us106 : (Try.prog.underlying 106).isSome = true := by kernel_rfl
theorem sz106 : sizeB Try.prog 106 = some 1 := by kernel_rfl
theorem na107 : isAggB Try.prog 107 = false := by kernel_rfl
theorem us107 : (Try.prog.underlying 107).isSome = true := by kernel_rfl
theorem sz107 : sizeB Try.prog 107 = some 1 := by kernel_rfl
theorem un107 : Try.prog.underlying 107 = some (.int .u64) := by kernel_rfl
theorem na108 : isAggB Try.prog 108 = false := by kernel_rfl
theorem us108 : (Try.prog.underlying 108).isSome = true := by kernel_rfl
theorem sz108 : sizeB Try.prog 108 = some 1 := by kernel_rfl
theorem un108 : Try.prog.underlying 108 = some (.int .u64) := by kernel_rfl
theorem na109 : isAggB Try.prog 109 = false := by kernel_rfl
theorem us109 : (Try.prog.underlying 109).isSome = true := by kernel_rfl
theorem sz109 : sizeB Try.prog 109 = some 1 := by kernel_rfl
theorem na110 : isAggB Try.prog 110 = false := by kernel_rfl
theorem us110 : (Try.prog.underlying 110).isSome = true := by kernel_rfl
theorem sz110 : sizeB Try.prog 110 = some 1 := by kernel_rfl
theorem na111 : isAggB Try.prog 111 = false := by kernel_rfl
theorem us111 : (Try.prog.underlying 111).isSome = true := by kernel_rfl
theorem sz111 : sizeB Try.prog 111 = some 1 := by kernel_rfl
theorem na112 : isAggB Try.prog 112 = false := by kernel_rfl
theorem us112 : (Try.prog.underlying 112).isSome = true := by kernel_rfl
theorem sz112 : sizeB Try.prog 112 = some 1 := by kernel_rfl
theorem na113 : isAggB Try.prog 113 = false := by kernel_rfl
theorem us113 : (Try.prog.underlying 113).isSome = true := by kernel_rfl
theorem sz113 : sizeB Try.prog 113 = some 1 := by kernel_rfl
theorem na115 : isAggB Try.prog 115 = false := by kernel_rfl
theorem us115 : (Try.prog.underlying 115).isSome = true := by kernel_rfl
theorem sz115 : sizeB Try.prog 115 = some 1 := by kernel_rfl
theorem na116 : isAggB Try.prog 116 = false := by kernel_rfl
theorem us116 : (Try.prog.underlying 116).isSome = true := by kernel_rfl
theorem sz116 : sizeB Try.prog 116 = some 1 := by kernel_rfl
theorem ag117 : isAggB Try.prog 117 = true := by kernel_rfl
theorem fd117_0 : fieldB Try.prog 117 0 = some (0, 1) := by kernel_rfl
theorem fd117_1 : fieldB Try.prog 117 1 = some (1, 1) := by kernel_rfl
theorem fd117_2 : fieldB Try.prog 117 2 = some (2, 1) := by kernel_rfl
theorem fd117_3 : fieldB Try.prog 117 3 = some (3, 1) := by kernel_rfl
theorem pl117 : placesB Try.prog 117 = some [(0, 1), (1, 1), (2, 1), (3, 1)] := by kernel_rfl
theorem sz117 : sizeB Try.prog 117 = some 4 := by kernel_rfl
theorem ag118 : isAggB Try.prog 118 = true := by kernel_rfl
theorem fd118_0 : fieldB Try.prog 118 0 = some (0, 1) := by kernel_rfl
theorem fd118_1 : fieldB Try.prog 118 1 = some (1, 1) := by kernel_rfl
theorem fd118_2 : fieldB Try.prog 118 2 = some (2, 1) := by kernel_rfl
theorem fd118_3 : fieldB Try.prog 118 3 = some (3, 1) := by kernel_rfl
theorem pl118 : placesB Try.prog 118 = some [(0, 1), (1, 1), (2, 1), (3, 1)] := by kernel_rfl
theorem sz118 : sizeB Try.prog 118 = some 4 := by kernel_rfl
theorem ag120 : isAggB Try.prog 120 = true := by kernel_rfl
theorem ag121 : isAggB Try.prog 121 = true := by kernel_rfl
theorem na122 : isAggB Try.prog 122 = false := by kernel_rfl
theorem us122 : (Try.prog.underlying 122).isSome = true := by kernel_rfl
theorem sz122 : sizeB Try.prog 122 = some 1 := by kernel_rfl
theorem na123 : isAggB Try.prog 123 = false := by kernel_rfl
theorem us123 : (Try.prog.underlying 123).isSome = true := by kernel_rfl
theorem sz123 : sizeB Try.prog 123 = some 1 := by kernel_rfl
theorem un123 : Try.prog.underlying 123 = some (.int .u8) := by kernel_rfl
theorem na124 : isAggB Try.prog 124 = false := by kernel_rfl
theorem us124 : (Try.prog.underlying 124).isSome = true := by kernel_rfl
theorem sz124 : sizeB Try.prog 124 = some 1 := by kernel_rfl
theorem un124 : Try.prog.underlying 124 = some (.int .u8) := by kernel_rfl
theorem na125 : isAggB Try.prog 125 = false := by kernel_rfl
theorem us125 : (Try.prog.underlying 125).isSome = true := by kernel_rfl
theorem sz125 : sizeB Try.prog 125 = some 1 := by kernel_rfl
theorem na126 : isAggB Try.prog 126 = false := by kernel_rfl
theorem us126 : (Try.prog.underlying 126).isSome = true := by kernel_rfl
theorem sz126 : sizeB Try.prog 126 = some 1 := by kernel_rfl
theorem na127 : isAggB Try.prog 127 = false := by kernel_rfl
theorem us127 : (Try.prog.underlying 127).isSome = true := by kernel_rfl
theorem sz127 : sizeB Try.prog 127 = some 1 := by kernel_rfl
theorem un127 : Try.prog.underlying 127 = some (.int .i32) := by kernel_rfl
theorem na128 : isAggB Try.prog 128 = false := by kernel_rfl
theorem us128 : (Try.prog.underlying 128).isSome = true := by kernel_rfl
theorem sz128 : sizeB Try.prog 128 = some 1 := by kernel_rfl
theorem un128 : Try.prog.underlying 128 = some (.int .i32) := by kernel_rfl
theorem ag129 : isAggB Try.prog 129 = true := by kernel_rfl
theorem fd129_0 : fieldB Try.prog 129 0 = some (0, 1) := by kernel_rfl
theorem fd129_1 : fieldB Try.prog 129 1 = some (1, 1) := by kernel_rfl
theorem fd129_2 : fieldB Try.prog 129 2 = some (2, 1) := by kernel_rfl
theorem fd129_3 : fieldB Try.prog 129 3 = some (3, 1) := by kernel_rfl
theorem fd129_4 : fieldB Try.prog 129 4 = some (4, 1) := by kernel_rfl
theorem fd129_5 : fieldB Try.prog 129 5 = some (5, 1) := by kernel_rfl
theorem fd129_6 : fieldB Try.prog 129 6 = some (6, 1) := by kernel_rfl
theorem fd129_7 : fieldB Try.prog 129 7 = some (7, 1) := by kernel_rfl
theorem fd129_8 : fieldB Try.prog 129 8 = some (8, 1) := by kernel_rfl
theorem fd129_9 : fieldB Try.prog 129 9 = some (9, 1) := by kernel_rfl
theorem fd129_10 : fieldB Try.prog 129 10 = some (10, 1) := by kernel_rfl
theorem pl129 : placesB Try.prog 129 = some [(0, 1), (1, 1), (2, 1), (3, 1), (4, 1), (5, 1), (6, 1), (7, 1), (8, 1), (9, 1), (10, 1)] := by kernel_rfl
theorem sz129 : sizeB Try.prog 129 = some 11 := by kernel_rfl
theorem ag130 : isAggB Try.prog 130 = true := by kernel_rfl
theorem fd130_0 : fieldB Try.prog 130 0 = some (0, 1) := by kernel_rfl
theorem fd130_1 : fieldB Try.prog 130 1 = some (1, 1) := by kernel_rfl
theorem fd130_2 : fieldB Try.prog 130 2 = some (2, 1) := by kernel_rfl
theorem fd130_3 : fieldB Try.prog 130 3 = some (3, 1) := by kernel_rfl
theorem fd130_4 : fieldB Try.prog 130 4 = some (4, 1) := by kernel_rfl
theorem fd130_5 : fieldB Try.prog 130 5 = some (5, 1) := by kernel_rfl
theorem fd130_6 : fieldB Try.prog 130 6 = some (6, 1) := by kernel_rfl
theorem fd130_7 : fieldB Try.prog 130 7 = some (7, 1) := by kernel_rfl
theorem fd130_8 : fieldB Try.prog 130 8 = some (8, 1) := by kernel_rfl
theorem fd130_9 : fieldB Try.prog 130 9 = some (9, 1) := by kernel_rfl
theorem fd130_10 : fieldB Try.prog 130 10 = some (10, 1) := by kernel_rfl
theorem pl130 : placesB Try.prog 130 = some [(0, 1), (1, 1), (2, 1), (3, 1), (4, 1), (5, 1), (6, 1), (7, 1), (8, 1), (9, 1), (10, 1)] := by kernel_rfl
theorem sz130 : sizeB Try.prog 130 = some 11 := by kernel_rfl
theorem in2 : (Try.prog.info? 2).map (fun i => (i.zero, i.size, i.bytes)) = some (some (.int .i64 0), 1, 8) := by kernel_rfl
theorem zr2 : zeroB Try.prog 2 = some (.int .i64 0) := by kernel_rfl
theorem in3 : (Try.prog.info? 3).map (fun i => (i.zero, i.size, i.bytes)) = some (some (.int .i64 0), 1, 8) := by kernel_rfl
theorem zr3 : zeroB Try.prog 3 = some (.int .i64 0) := by kernel_rfl
theorem in4 : (Try.prog.info? 4).map (fun i => (i.zero, i.size, i.bytes)) = some (some (.bool false), 1, 1) := by kernel_rfl
theorem zr4 : zeroB Try.prog 4 = some (.bool false) := by kernel_rfl
theorem un4 : Try.prog.underlying 4 = some .bool := by kernel_rfl
theorem in5 : (Try.prog.info? 5).map (fun i => (i.zero, i.size, i.bytes)) = some (some (.int .u8 0), 1, 1) := by kernel_rfl
theorem zr5 : zeroB Try.prog 5 = some (.int .u8 0) := by kernel_rfl
theorem in6 : (Try.prog.info? 6).map (fun i => (i.zero, i.size, i.bytes)) = some (some (.int .u8 0), 1, 1) := by kernel_rfl
theorem zr6 : zeroB Try.prog 6 = some (.int .u8 0) := by kernel_rfl
theorem in7 : (Try.prog.info? 7).map (fun i => (i.zero, i.size, i.bytes)) = some (some (.agg #[.int .i64 0, .int .i64 0, .bool false, .int .u8 0]), 4, 24) := by kernel_rfl
theorem zr7 : zeroB Try.prog 7 = some (.agg #[.int .i64 0, .int .i64 0, .bool false, .int .u8 0]) := by kernel_rfl
theorem in8 : (Try.prog.info? 8).map (fun i => (i.zero, i.size, i.bytes)) = some (some (.agg #[.int .i64 0, .int .i64 0, .bool false, .int .u8 0]), 4, 24) := by kernel_rfl
theorem zr8 : zeroB Try.prog 8 = some (.agg #[.int .i64 0, .int .i64 0, .bool false, .int .u8 0]) := by kernel_rfl
theorem in12 : (Try.prog.info? 12).map (fun i => (i.zero, i.size, i.bytes)) = some (some (.int .u64 0), 1, 8) := by kernel_rfl
theorem zr12 : zeroB Try.prog 12 = some (.int .u64 0) := by kernel_rfl
theorem in15 : (Try.prog.info? 15).map (fun i => (i.zero, i.size, i.bytes)) = some (some (.pointer none), 1, 8) := by kernel_rfl
theorem zr15 : zeroB Try.prog 15 = some (.pointer none) := by kernel_rfl
theorem in16 : (Try.prog.info? 16).map (fun i => (i.zero, i.size, i.bytes)) = some (some (.pointer none), 1, 8) := by kernel_rfl
theorem zr16 : zeroB Try.prog 16 = some (.pointer none) := by kernel_rfl
theorem in17 : (Try.prog.info? 17).map (fun i => (i.zero, i.size, i.bytes)) = some (some (.pointer none), 1, 8) := by kernel_rfl
theorem zr17 : zeroB Try.prog 17 = some (.pointer none) := by kernel_rfl
theorem in18 : (Try.prog.info? 18).map (fun i => (i.zero, i.size, i.bytes)) = some (some (.agg #[.pointer none]), 1, 8) := by kernel_rfl
theorem zr18 : zeroB Try.prog 18 = some (.agg #[.pointer none]) := by kernel_rfl
theorem in19 : (Try.prog.info? 19).map (fun i => (i.zero, i.size, i.bytes)) = some (some (.agg #[.pointer none]), 1, 8) := by kernel_rfl
theorem zr19 : zeroB Try.prog 19 = some (.agg #[.pointer none]) := by kernel_rfl
theorem in21 : (Try.prog.info? 21).map (fun i => (i.zero, i.size, i.bytes)) = some (some (.int .i32 0), 1, 4) := by kernel_rfl
theorem zr21 : zeroB Try.prog 21 = some (.int .i32 0) := by kernel_rfl
theorem in22 : (Try.prog.info? 22).map (fun i => (i.zero, i.size, i.bytes)) = some (some (.slice none 0 0), 1, 24) := by kernel_rfl
theorem zr22 : zeroB Try.prog 22 = some (.slice none 0 0) := by kernel_rfl
theorem in23 : (Try.prog.info? 23).map (fun i => (i.zero, i.size, i.bytes)) = some (some (.slice none 0 0), 1, 24) := by kernel_rfl
theorem zr23 : zeroB Try.prog 23 = some (.slice none 0 0) := by kernel_rfl
theorem in24 : (Try.prog.info? 24).map (fun i => (i.zero, i.size, i.bytes)) = some (some (.agg #[.int .i64 0, .slice none 0 0]), 2, 32) := by kernel_rfl
theorem zr24 : zeroB Try.prog 24 = some (.agg #[.int .i64 0, .slice none 0 0]) := by kernel_rfl
theorem in25 : (Try.prog.info? 25).map (fun i => (i.zero, i.size, i.bytes)) = some (some (.agg #[.int .i64 0, .slice none 0 0]), 2, 32) := by kernel_rfl
theorem zr25 : zeroB Try.prog 25 = some (.agg #[.int .i64 0, .slice none 0 0]) := by kernel_rfl
theorem in28 : (Try.prog.info? 28).map (fun i => (i.zero, i.size, i.bytes)) = some (some (.slice none 0 0), 1, 24) := by kernel_rfl
theorem zr28 : zeroB Try.prog 28 = some (.slice none 0 0) := by kernel_rfl
theorem in29 : (Try.prog.info? 29).map (fun i => (i.zero, i.size, i.bytes)) = some (some (.agg #[.int .i64 0, .int .i64 0]), 2, 16) := by kernel_rfl
theorem zr29 : zeroB Try.prog 29 = some (.agg #[.int .i64 0, .int .i64 0]) := by kernel_rfl
theorem in30 : (Try.prog.info? 30).map (fun i => (i.zero, i.size, i.bytes)) = some (some (.agg #[.int .i64 0, .int .i64 0]), 2, 16) := by kernel_rfl
theorem zr30 : zeroB Try.prog 30 = some (.agg #[.int .i64 0, .int .i64 0]) := by kernel_rfl
theorem in31 : (Try.prog.info? 31).map (fun i => (i.zero, i.size, i.bytes)) = some (some (.agg #[.int .i64 0, .int .i64 0, .int .i64 0, .int .i64 0, .int .i64 0, .slice none 0 0, .int .i64 0, .int .i64 0]), 8, 80) := by kernel_rfl
theorem zr31 : zeroB Try.prog 31 = some (.agg #[.int .i64 0, .int .i64 0, .int .i64 0, .int .i64 0, .int .i64 0, .slice none 0 0, .int .i64 0, .int .i64 0]) := by kernel_rfl
theorem in32 : (Try.prog.info? 32).map (fun i => (i.zero, i.size, i.bytes)) = some (some (.agg #[.int .i64 0, .int .i64 0, .int .i64 0, .int .i64 0, .int .i64 0, .slice none 0 0, .int .i64 0, .int .i64 0]), 8, 80) := by kernel_rfl
theorem zr32 : zeroB Try.prog 32 = some (.agg #[.int .i64 0, .int .i64 0, .int .i64 0, .int .i64 0, .int .i64 0, .slice none 0 0, .int .i64 0, .int .i64 0]) := by kernel_rfl
theorem in33 : (Try.prog.info? 33).map (fun i => (i.zero, i.size, i.bytes)) = some (some (.int .i64 0), 1, 8) := by kernel_rfl
theorem zr33 : zeroB Try.prog 33 = some (.int .i64 0) := by kernel_rfl
theorem in43 : (Try.prog.info? 43).map (fun i => (i.zero, i.size, i.bytes)) = some (some (.pointer none), 1, 8) := by kernel_rfl
theorem zr43 : zeroB Try.prog 43 = some (.pointer none) := by kernel_rfl
theorem in45 : (Try.prog.info? 45).map (fun i => (i.zero, i.size, i.bytes)) = some (some (.agg #[.int .i64 0, .int .i64 0, .int .i64 0, .int .i64 0, .int .i64 0]), 5, 40) := by kernel_rfl
theorem zr45 : zeroB Try.prog 45 = some (.agg #[.int .i64 0, .int .i64 0, .int .i64 0, .int .i64 0, .int .i64 0]) := by kernel_rfl
theorem in46 : (Try.prog.info? 46).map (fun i => (i.zero, i.size, i.bytes)) = some (some (.agg #[.int .i64 0, .int .i64 0, .int .i64 0, .int .i64 0, .int .i64 0]), 5, 40) := by kernel_rfl
theorem zr46 : zeroB Try.prog 46 = some (.agg #[.int .i64 0, .int .i64 0, .int .i64 0, .int .i64 0, .int .i64 0]) := by kernel_rfl
theorem in47 : (Try.prog.info? 47).map (fun i => (i.zero, i.size, i.bytes)) = some (some (.agg #[.int .i64 0, .int .i64 0, .int .i64 0, .int .i64 0, .int .i64 0, .int .i64 0, .int .i64 0]), 7, 56) := by kernel_rfl
theorem zr47 : zeroB Try.prog 47 = some (.agg #[.int .i64 0, .int .i64 0, .int .i64 0, .int .i64 0, .int .i64 0, .int .i64 0, .int .i64 0]) := by kernel_rfl
theorem in48 : (Try.prog.info? 48).map (fun i => (i.zero, i.size, i.bytes)) = some (some (.agg #[.int .i64 0, .int .i64 0, .int .i64 0, .int .i64 0, .int .i64 0, .int .i64 0, .int .i64 0]), 7, 56) := by kernel_rfl
theorem zr48 : zeroB Try.prog 48 = some (.agg #[.int .i64 0, .int .i64 0, .int .i64 0, .int .i64 0, .int .i64 0, .int .i64 0, .int .i64 0]) := by kernel_rfl
theorem in53 : (Try.prog.info? 53).map (fun i => (i.zero, i.size, i.bytes)) = some (some (.slice none 0 0), 1, 24) := by kernel_rfl
theorem zr53 : zeroB Try.prog 53 = some (.slice none 0 0) := by kernel_rfl
theorem in63 : (Try.prog.info? 63).map (fun i => (i.zero, i.size, i.bytes)) = some (some (.pointer none), 1, 8) := by kernel_rfl
theorem zr63 : zeroB Try.prog 63 = some (.pointer none) := by kernel_rfl
theorem in64 : (Try.prog.info? 64).map (fun i => (i.zero, i.size, i.bytes)) = some (some (.int .u64 0), 1, 8) := by kernel_rfl
theorem zr64 : zeroB Try.prog 64 = some (.int .u64 0) := by kernel_rfl
theorem in65 : (Try.prog.info? 65).map (fun i => (i.zero, i.size, i.bytes)) = some (some (.pointer none), 1, 8) := by kernel_rfl
theorem zr65 : zeroB Try.prog 65 = some (.pointer none) := by kernel_rfl
theorem in66 : (Try.prog.info? 66).map (fun i => (i.zero, i.size, i.bytes)) = some (some (.slice none 0 0), 1, 24) := by kernel_rfl
theorem zr66 : zeroB Try.prog 66 = some (.slice none 0 0) := by kernel_rfl
theorem in79 : (Try.prog.info? 79).map (fun i => (i.zero, i.size, i.bytes)) = some (some (.map none), 1, 8) := by kernel_rfl
theorem zr79 : zeroB Try.prog 79 = some (.map none) := by kernel_rfl
theorem in87 : (Try.prog.info? 87).map (fun i => (i.zero, i.size, i.bytes)) = some (some (.agg #[.slice none 0 0, .int .i64 0]), 2, 32) := by kernel_rfl
theorem zr87 : zeroB Try.prog 87 = some (.agg #[.slice none 0 0, .int .i64 0]) := by kernel_rfl
theorem in88 : (Try.prog.info? 88).map (fun i => (i.zero, i.size, i.bytes)) = some (some (.agg #[.slice none 0 0, .int .i64 0]), 2, 32) := by kernel_rfl
theorem zr88 : zeroB Try.prog 88 = some (.agg #[.slice none 0 0, .int .i64 0]) := by kernel_rfl
theorem in97 : (Try.prog.info? 97).map (fun i => (i.zero, i.size, i.bytes)) = some (some (.int .i64 0), 1, 8) := by kernel_rfl
theorem zr97 : zeroB Try.prog 97 = some (.int .i64 0) := by kernel_rfl
theorem in105 : (Try.prog.info? 105).map (fun i => (i.zero, i.size, i.bytes)) = some (some (.int .u32 0), 1, 4) := by kernel_rfl
theorem zr105 : zeroB Try.prog 105 = some (.int .u32 0) := by kernel_rfl
theorem in107 : (Try.prog.info? 107).map (fun i => (i.zero, i.size, i.bytes)) = some (some (.int .u64 0), 1, 8) := by kernel_rfl
theorem zr107 : zeroB Try.prog 107 = some (.int .u64 0) := by kernel_rfl
theorem in108 : (Try.prog.info? 108).map (fun i => (i.zero, i.size, i.bytes)) = some (some (.int .u64 0), 1, 8) := by kernel_rfl
theorem zr108 : zeroB Try.prog 108 = some (.int .u64 0) := by kernel_rfl
theorem in113 : (Try.prog.info? 113).map (fun i => (i.zero, i.size, i.bytes)) = some (some (.pointer none), 1, 8) := by kernel_rfl
theorem zr113 : zeroB Try.prog 113 = some (.pointer none) := by kernel_rfl
theorem in123 : (Try.prog.info? 123).map (fun i => (i.zero, i.size, i.bytes)) = some (some (.int .u8 0), 1, 1) := by kernel_rfl
theorem zr123 : zeroB Try.prog 123 = some (.int .u8 0) := by kernel_rfl
theorem in124 : (Try.prog.info? 124).map (fun i => (i.zero, i.size, i.bytes)) = some (some (.int .u8 0), 1, 1) := by kernel_rfl
theorem zr124 : zeroB Try.prog 124 = some (.int .u8 0) := by kernel_rfl
theorem in126 : (Try.prog.info? 126).map (fun i => (i.zero, i.size, i.bytes)) = some (some (.pointer none), 1, 8) := by kernel_rfl
theorem zr126 : zeroB Try.prog 126 = some (.pointer none) := by kernel_rfl
theorem in127 : (Try.prog.info? 127).map (fun i => (i.zero, i.size, i.bytes)) = some (some (.int .i32 0), 1, 4) := by kernel_rfl
theorem zr127 : zeroB Try.prog 127 = some (.int .i32 0) := by kernel_rfl
theorem in128 : (Try.prog.info? 128).map (fun i => (i.zero, i.size, i.bytes)) = some (some (.int .i32 0), 1, 4) := by kernel_rfl
theorem zr128 : zeroB Try.prog 128 = some (.int .i32 0) := by kernel_rfl
theorem mixed : Try.prog.follows .mixedOrders = true := by kernel_rfl
end Go.Proofs.Ytipblbjkbeiflaa
