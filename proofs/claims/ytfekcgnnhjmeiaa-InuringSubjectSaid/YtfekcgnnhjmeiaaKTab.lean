/- Closed facts on the types of this translation, each reckoned by the kernel. Written by a small program. -/
import Derived.Test.YtfekcgnnhjmeiaaKDet
import Derived.Test.YtfekcgnnhjmeiaaRows
import Derived.KernelRfl
namespace Go.Proofs.Ytfekcgnnhjmeiaa
theorem na1 : isAggB Try.prog 1 = false := by kernel_rfl
theorem us1 : (Try.prog.underlying 1).isSome = true := by kernel_rfl
theorem sz1 : sizeB Try.prog 1 = some 1 := by kernel_rfl
theorem na2 : isAggB Try.prog 2 = false := by kernel_rfl
theorem us2 : (Try.prog.underlying 2).isSome = true := by kernel_rfl
theorem sz2 : sizeB Try.prog 2 = some 1 := by kernel_rfl
theorem un2 : Try.prog.underlying 2 = some (.int .i64) := by kernel_rfl
theorem na3 : isAggB Try.prog 3 = false := by kernel_rfl
theorem us3 : (Try.prog.underlying 3).isSome = true := by kernel_rfl
theorem sz3 : sizeB Try.prog 3 = some 1 := by kernel_rfl
theorem un3 : Try.prog.underlying 3 = some (.int .i64) := by kernel_rfl
theorem na4 : isAggB Try.prog 4 = false := by kernel_rfl
theorem us4 : (Try.prog.underlying 4).isSome = true := by kernel_rfl
theorem sz4 : sizeB Try.prog 4 = some 1 := by kernel_rfl
theorem na5 : isAggB Try.prog 5 = false := by kernel_rfl
theorem us5 : (Try.prog.underlying 5).isSome = true := by kernel_rfl
theorem sz5 : sizeB Try.prog 5 = some 1 := by kernel_rfl
theorem un5 : Try.prog.underlying 5 = some (.int .u8) := by kernel_rfl
theorem na6 : isAggB Try.prog 6 = false := by kernel_rfl
theorem us6 : (Try.prog.underlying 6).isSome = true := by kernel_rfl
theorem sz6 : sizeB Try.prog 6 = some 1 := by kernel_rfl
theorem un6 : Try.prog.underlying 6 = some (.int .u8) := by kernel_rfl
theorem ag7 : isAggB Try.prog 7 = true := by kernel_rfl
theorem fd7_0 : fieldB Try.prog 7 0 = some (0, 1) := by kernel_rfl
theorem fd7_1 : fieldB Try.prog 7 1 = some (1, 1) := by kernel_rfl
theorem fd7_2 : fieldB Try.prog 7 2 = some (2, 1) := by kernel_rfl
theorem fd7_3 : fieldB Try.prog 7 3 = some (3, 1) := by kernel_rfl
theorem pl7 : placesB Try.prog 7 = some [(0, 1), (1, 1), (2, 1), (3, 1)] := by kernel_rfl
theorem sz7 : sizeB Try.prog 7 = some 4 := by kernel_rfl
theorem ag8 : isAggB Try.prog 8 = true := by kernel_rfl
theorem fd8_0 : fieldB Try.prog 8 0 = some (0, 1) := by kernel_rfl
theorem fd8_1 : fieldB Try.prog 8 1 = some (1, 1) := by kernel_rfl
theorem fd8_2 : fieldB Try.prog 8 2 = some (2, 1) := by kernel_rfl
theorem fd8_3 : fieldB Try.prog 8 3 = some (3, 1) := by kernel_rfl
theorem pl8 : placesB Try.prog 8 = some [(0, 1), (1, 1), (2, 1), (3, 1)] := by kernel_rfl
theorem sz8 : sizeB Try.prog 8 = some 4 := by kernel_rfl
theorem na9 : isAggB Try.prog 9 = false := by kernel_rfl
theorem us9 : (Try.prog.underlying 9).isSome = true := by kernel_rfl
theorem sz9 : sizeB Try.prog 9 = some 1 := by kernel_rfl
theorem na10 : isAggB Try.prog 10 = false := by kernel_rfl
theorem us10 : (Try.prog.underlying 10).isSome = true := by kernel_rfl
theorem sz10 : sizeB Try.prog 10 = some 1 := by kernel_rfl
theorem na11 : isAggB Try.prog 11 = false := by kernel_rfl
theorem us11 : (Try.prog.underlying 11).isSome = true := by kernel_rfl
theorem sz11 : sizeB Try.prog 11 = some 1 := by kernel_rfl
theorem na12 : isAggB Try.prog 12 = false := by kernel_rfl
theorem us12 : (Try.prog.underlying 12).isSome = true := by kernel_rfl
theorem sz12 : sizeB Try.prog 12 = some 1 := by kernel_rfl
theorem un12 : Try.prog.underlying 12 = some (.int .u64) := by kernel_rfl
theorem ag13 : isAggB Try.prog 13 = true := by kernel_rfl
theorem fd13_0 : fieldB Try.prog 13 0 = some (0, 1) := by kernel_rfl
theorem fd13_1 : fieldB Try.prog 13 1 = some (1, 1) := by kernel_rfl
theorem pl13 : placesB Try.prog 13 = some [(0, 1), (1, 1)] := by kernel_rfl
theorem sz13 : sizeB Try.prog 13 = some 2 := by kernel_rfl
theorem ag14 : isAggB Try.prog 14 = true := by kernel_rfl
theorem fd14_0 : fieldB Try.prog 14 0 = some (0, 1) := by kernel_rfl
theorem fd14_1 : fieldB Try.prog 14 1 = some (1, 1) := by kernel_rfl
theorem pl14 : placesB Try.prog 14 = some [(0, 1), (1, 1)] := by kernel_rfl
theorem sz14 : sizeB Try.prog 14 = some 2 := by kernel_rfl
theorem na15 : isAggB Try.prog 15 = false := by kernel_rfl
theorem us15 : (Try.prog.underlying 15).isSome = true := by kernel_rfl
theorem sz15 : sizeB Try.prog 15 = some 1 := by kernel_rfl
theorem na16 : isAggB Try.prog 16 = false := by kernel_rfl
theorem us16 : (Try.prog.underlying 16).isSome = true := by kernel_rfl
theorem sz16 : sizeB Try.prog 16 = some 1 := by kernel_rfl
theorem na17 : isAggB Try.prog 17 = false := by kernel_rfl
theorem us17 : (Try.prog.underlying 17).isSome = true := by kernel_rfl
theorem sz17 : sizeB Try.prog 17 = some 1 := by kernel_rfl
theorem ag18 : isAggB Try.prog 18 = true := by kernel_rfl
theorem fd18_0 : fieldB Try.prog 18 0 = some (0, 1) := by kernel_rfl
theorem pl18 : placesB Try.prog 18 = some [(0, 1)] := by kernel_rfl
theorem sz18 : sizeB Try.prog 18 = some 1 := by kernel_rfl
theorem ag19 : isAggB Try.prog 19 = true := by kernel_rfl
theorem fd19_0 : fieldB Try.prog 19 0 = some (0, 1) := by kernel_rfl
theorem pl19 : placesB Try.prog 19 = some [(0, 1)] := by kernel_rfl
theorem sz19 : sizeB Try.prog 19 = some 1 := by kernel_rfl
theorem na21 : isAggB Try.prog 21 = false := by kernel_rfl
theorem us21 : (Try.prog.underlying 21).isSome = true := by kernel_rfl
theorem sz21 : sizeB Try.prog 21 = some 1 := by kernel_rfl
theorem un21 : Try.prog.underlying 21 = some (.int .i32) := by kernel_rfl
theorem na22 : isAggB Try.prog 22 = false := by kernel_rfl
theorem us22 : (Try.prog.underlying 22).isSome = true := by kernel_rfl
theorem sz22 : sizeB Try.prog 22 = some 1 := by kernel_rfl
theorem un22 : Try.prog.underlying 22 = some (.slice 3) := by kernel_rfl
theorem na23 : isAggB Try.prog 23 = false := by kernel_rfl
theorem us23 : (Try.prog.underlying 23).isSome = true := by kernel_rfl
theorem sz23 : sizeB Try.prog 23 = some 1 := by kernel_rfl
theorem un23 : Try.prog.underlying 23 = some (.slice 41) := by kernel_rfl
theorem na24 : isAggB Try.prog 24 = false := by kernel_rfl
theorem us24 : (Try.prog.underlying 24).isSome = true := by kernel_rfl
theorem sz24 : sizeB Try.prog 24 = some 1 := by kernel_rfl
theorem na25 : isAggB Try.prog 25 = false := by kernel_rfl
theorem us25 : (Try.prog.underlying 25).isSome = true := by kernel_rfl
theorem sz25 : sizeB Try.prog 25 = some 1 := by kernel_rfl
theorem na26 : isAggB Try.prog 26 = false := by kernel_rfl
theorem us26 : (Try.prog.underlying 26).isSome = true := by kernel_rfl
theorem sz26 : sizeB Try.prog 26 = some 1 := by kernel_rfl
theorem na27 : isAggB Try.prog 27 = false := by kernel_rfl
theorem us27 : (Try.prog.underlying 27).isSome = true := by kernel_rfl
theorem sz27 : sizeB Try.prog 27 = some 1 := by kernel_rfl
theorem na28 : isAggB Try.prog 28 = false := by kernel_rfl
theorem us28 : (Try.prog.underlying 28).isSome = true := by kernel_rfl
theorem sz28 : sizeB Try.prog 28 = some 1 := by kernel_rfl
theorem un28 : Try.prog.underlying 28 = some (.int .i64) := by kernel_rfl
theorem na30 : isAggB Try.prog 30 = false := by kernel_rfl
theorem us30 : (Try.prog.underlying 30).isSome = true := by kernel_rfl
theorem sz30 : sizeB Try.prog 30 = some 1 := by kernel_rfl
theorem na31 : isAggB Try.prog 31 = false := by kernel_rfl
theorem us31 : (Try.prog.underlying 31).isSome = true := by kernel_rfl
theorem sz31 : sizeB Try.prog 31 = some 1 := by kernel_rfl
theorem na32 : isAggB Try.prog 32 = false := by kernel_rfl
theorem us32 : (Try.prog.underlying 32).isSome = true := by kernel_rfl
theorem sz32 : sizeB Try.prog 32 = some 1 := by kernel_rfl
theorem na33 : isAggB Try.prog 33 = false := by kernel_rfl
theorem us33 : (Try.prog.underlying 33).isSome = true := by kernel_rfl
theorem sz33 : sizeB Try.prog 33 = some 1 := by kernel_rfl
theorem na34 : isAggB Try.prog 34 = false := by kernel_rfl
theorem us34 : (Try.prog.underlying 34).isSome = true := by kernel_rfl
theorem sz34 : sizeB Try.prog 34 = some 1 := by kernel_rfl
theorem na35 : isAggB Try.prog 35 = false := by kernel_rfl
theorem us35 : (Try.prog.underlying 35).isSome = true := by kernel_rfl
theorem sz35 : sizeB Try.prog 35 = some 1 := by kernel_rfl
theorem na36 : isAggB Try.prog 36 = false := by kernel_rfl
theorem us36 : (Try.prog.underlying 36).isSome = true := by kernel_rfl
theorem sz36 : sizeB Try.prog 36 = some 1 := by kernel_rfl
theorem ag37 : isAggB Try.prog 37 = true := by kernel_rfl
theorem fd37_0 : fieldB Try.prog 37 0 = some (0, 1) := by kernel_rfl
theorem fd37_1 : fieldB Try.prog 37 1 = some (1, 1) := by kernel_rfl
theorem eq37 : eqOkB Try.prog 37 2 = true := by kernel_rfl
theorem pl37 : placesB Try.prog 37 = some [(0, 1), (1, 1)] := by kernel_rfl
theorem sz37 : sizeB Try.prog 37 = some 2 := by kernel_rfl
theorem ag38 : isAggB Try.prog 38 = true := by kernel_rfl
theorem fd38_0 : fieldB Try.prog 38 0 = some (0, 1) := by kernel_rfl
theorem fd38_1 : fieldB Try.prog 38 1 = some (1, 1) := by kernel_rfl
theorem eq38 : eqOkB Try.prog 38 2 = true := by kernel_rfl
theorem pl38 : placesB Try.prog 38 = some [(0, 1), (1, 1)] := by kernel_rfl
theorem sz38 : sizeB Try.prog 38 = some 2 := by kernel_rfl
theorem na39 : isAggB Try.prog 39 = false := by kernel_rfl
theorem us39 : (Try.prog.underlying 39).isSome = true := by kernel_rfl
theorem sz39 : sizeB Try.prog 39 = some 1 := by kernel_rfl
theorem un39 : Try.prog.underlying 39 = some (.slice 72) := by kernel_rfl
theorem ag40 : isAggB Try.prog 40 = true := by kernel_rfl
theorem fd40_0 : fieldB Try.prog 40 0 = some (0, 1) := by kernel_rfl
theorem fd40_1 : fieldB Try.prog 40 1 = some (1, 1) := by kernel_rfl
theorem fd40_2 : fieldB Try.prog 40 2 = some (2, 2) := by kernel_rfl
theorem fd40_3 : fieldB Try.prog 40 3 = some (4, 1) := by kernel_rfl
theorem fd40_4 : fieldB Try.prog 40 4 = some (5, 1) := by kernel_rfl
theorem fd40_5 : fieldB Try.prog 40 5 = some (6, 1) := by kernel_rfl
theorem fd40_6 : fieldB Try.prog 40 6 = some (7, 1) := by kernel_rfl
theorem fd40_7 : fieldB Try.prog 40 7 = some (8, 1) := by kernel_rfl
theorem fd40_8 : fieldB Try.prog 40 8 = some (9, 1) := by kernel_rfl
theorem fd40_9 : fieldB Try.prog 40 9 = some (10, 1) := by kernel_rfl
theorem fd40_10 : fieldB Try.prog 40 10 = some (11, 1) := by kernel_rfl
theorem fd40_11 : fieldB Try.prog 40 11 = some (12, 1) := by kernel_rfl
theorem fd40_12 : fieldB Try.prog 40 12 = some (13, 1) := by kernel_rfl
theorem fd40_13 : fieldB Try.prog 40 13 = some (14, 1) := by kernel_rfl
theorem fd40_14 : fieldB Try.prog 40 14 = some (15, 1) := by kernel_rfl
theorem fd40_15 : fieldB Try.prog 40 15 = some (16, 1) := by kernel_rfl
theorem fd40_16 : fieldB Try.prog 40 16 = some (17, 1) := by kernel_rfl
theorem fd40_17 : fieldB Try.prog 40 17 = some (18, 1) := by kernel_rfl
theorem fd40_18 : fieldB Try.prog 40 18 = some (19, 1) := by kernel_rfl
theorem fd40_19 : fieldB Try.prog 40 19 = some (20, 1) := by kernel_rfl
theorem pl40 : placesB Try.prog 40 = some [(0, 1), (1, 1), (2, 2), (4, 1), (5, 1), (6, 1), (7, 1), (8, 1), (9, 1), (10, 1), (11, 1), (12, 1), (13, 1), (14, 1), (15, 1), (16, 1), (17, 1), (18, 1), (19, 1), (20, 1)] := by kernel_rfl
theorem sz40 : sizeB Try.prog 40 = some 21 := by kernel_rfl
theorem ag41 : isAggB Try.prog 41 = true := by kernel_rfl
theorem fd41_0 : fieldB Try.prog 41 0 = some (0, 1) := by kernel_rfl
theorem fd41_1 : fieldB Try.prog 41 1 = some (1, 1) := by kernel_rfl
theorem fd41_2 : fieldB Try.prog 41 2 = some (2, 2) := by kernel_rfl
theorem fd41_3 : fieldB Try.prog 41 3 = some (4, 1) := by kernel_rfl
theorem fd41_4 : fieldB Try.prog 41 4 = some (5, 1) := by kernel_rfl
theorem fd41_5 : fieldB Try.prog 41 5 = some (6, 1) := by kernel_rfl
theorem fd41_6 : fieldB Try.prog 41 6 = some (7, 1) := by kernel_rfl
theorem fd41_7 : fieldB Try.prog 41 7 = some (8, 1) := by kernel_rfl
theorem fd41_8 : fieldB Try.prog 41 8 = some (9, 1) := by kernel_rfl
theorem fd41_9 : fieldB Try.prog 41 9 = some (10, 1) := by kernel_rfl
theorem fd41_10 : fieldB Try.prog 41 10 = some (11, 1) := by kernel_rfl
theorem fd41_11 : fieldB Try.prog 41 11 = some (12, 1) := by kernel_rfl
theorem fd41_12 : fieldB Try.prog 41 12 = some (13, 1) := by kernel_rfl
theorem fd41_13 : fieldB Try.prog 41 13 = some (14, 1) := by kernel_rfl
theorem fd41_14 : fieldB Try.prog 41 14 = some (15, 1) := by kernel_rfl
theorem fd41_15 : fieldB Try.prog 41 15 = some (16, 1) := by kernel_rfl
theorem fd41_16 : fieldB Try.prog 41 16 = some (17, 1) := by kernel_rfl
theorem fd41_17 : fieldB Try.prog 41 17 = some (18, 1) := by kernel_rfl
theorem fd41_18 : fieldB Try.prog 41 18 = some (19, 1) := by kernel_rfl
theorem fd41_19 : fieldB Try.prog 41 19 = some (20, 1) := by kernel_rfl
theorem pl41 : placesB Try.prog 41 = some [(0, 1), (1, 1), (2, 2), (4, 1), (5, 1), (6, 1), (7, 1), (8, 1), (9, 1), (10, 1), (11, 1), (12, 1), (13, 1), (14, 1), (15, 1), (16, 1), (17, 1), (18, 1), (19, 1), (20, 1)] := by kernel_rfl
theorem sz41 : sizeB Try.prog 41 = some 21 := by kernel_rfl
theorem na42 : isAggB Try.prog 42 = false := by kernel_rfl
theorem us42 : (Try.prog.underlying 42).isSome = true := by kernel_rfl
theorem sz42 : sizeB Try.prog 42 = some 1 := by kernel_rfl
theorem na43 : isAggB Try.prog 43 = false := by kernel_rfl
theorem us43 : (Try.prog.underlying 43).isSome = true := by kernel_rfl
theorem sz43 : sizeB Try.prog 43 = some 1 := by kernel_rfl
theorem na44 : isAggB Try.prog 44 = false := by kernel_rfl
theorem us44 : (Try.prog.underlying 44).isSome = true := by kernel_rfl
theorem sz44 : sizeB Try.prog 44 = some 1 := by kernel_rfl
theorem na45 : isAggB Try.prog 45 = false := by kernel_rfl
theorem us45 : (Try.prog.underlying 45).isSome = true := by kernel_rfl
theorem sz45 : sizeB Try.prog 45 = some 1 := by kernel_rfl
theorem na46 : isAggB Try.prog 46 = false := by kernel_rfl
theorem us46 : (Try.prog.underlying 46).isSome = true := by kernel_rfl
theorem sz46 : sizeB Try.prog 46 = some 1 := by kernel_rfl
theorem na47 : isAggB Try.prog 47 = false := by kernel_rfl
theorem us47 : (Try.prog.underlying 47).isSome = true := by kernel_rfl
theorem sz47 : sizeB Try.prog 47 = some 1 := by kernel_rfl
theorem na48 : isAggB Try.prog 48 = false := by kernel_rfl
theorem us48 : (Try.prog.underlying 48).isSome = true := by kernel_rfl
theorem sz48 : sizeB Try.prog 48 = some 1 := by kernel_rfl
theorem na49 : isAggB Try.prog 49 = false := by kernel_rfl
theorem us49 : (Try.prog.underlying 49).isSome = true := by kernel_rfl
theorem sz49 : sizeB Try.prog 49 = some 1 := by kernel_rfl
theorem na50 : isAggB Try.prog 50 = false := by kernel_rfl
theorem us50 : (Try.prog.underlying 50).isSome = true := by kernel_rfl
theorem sz50 : sizeB Try.prog 50 = some 1 := by kernel_rfl
theorem un50 : Try.prog.underlying 50 = some (.int .u64) := by kernel_rfl
theorem na51 : isAggB Try.prog 51 = false := by kernel_rfl
theorem us51 : (Try.prog.underlying 51).isSome = true := by kernel_rfl
theorem sz51 : sizeB Try.prog 51 = some 1 := by kernel_rfl
theorem na52 : isAggB Try.prog 52 = false := by kernel_rfl
theorem us52 : (Try.prog.underlying 52).isSome = true := by kernel_rfl
theorem sz52 : sizeB Try.prog 52 = some 1 := by kernel_rfl
theorem un52 : Try.prog.underlying 52 = some (.slice 4) := by kernel_rfl
theorem ag53 : isAggB Try.prog 53 = true := by kernel_rfl
theorem fd53_0 : fieldB Try.prog 53 0 = some (0, 1) := by kernel_rfl
theorem fd53_1 : fieldB Try.prog 53 1 = some (1, 1) := by kernel_rfl
theorem pl53 : placesB Try.prog 53 = some [(0, 1), (1, 1)] := by kernel_rfl
theorem sz53 : sizeB Try.prog 53 = some 2 := by kernel_rfl
theorem ag54 : isAggB Try.prog 54 = true := by kernel_rfl
theorem fd54_0 : fieldB Try.prog 54 0 = some (0, 1) := by kernel_rfl
theorem fd54_1 : fieldB Try.prog 54 1 = some (1, 1) := by kernel_rfl
theorem pl54 : placesB Try.prog 54 = some [(0, 1), (1, 1)] := by kernel_rfl
theorem sz54 : sizeB Try.prog 54 = some 2 := by kernel_rfl
theorem na55 : isAggB Try.prog 55 = false := by kernel_rfl
theorem us55 : (Try.prog.underlying 55).isSome = true := by kernel_rfl
theorem sz55 : sizeB Try.prog 55 = some 1 := by kernel_rfl
theorem na56 : isAggB Try.prog 56 = false := by kernel_rfl
theorem us56 : (Try.prog.underlying 56).isSome = true := by kernel_rfl
theorem sz56 : sizeB Try.prog 56 = some 1 := by kernel_rfl
theorem na57 : isAggB Try.prog 57 = false := by kernel_rfl
theorem us57 : (Try.prog.underlying 57).isSome = true := by kernel_rfl
theorem sz57 : sizeB Try.prog 57 = some 1 := by kernel_rfl
theorem na58 : isAggB Try.prog 58 = false := by kernel_rfl
theorem us58 : (Try.prog.underlying 58).isSome = true := by kernel_rfl
theorem sz58 : sizeB Try.prog 58 = some 1 := by kernel_rfl
theorem na59 : isAggB Try.prog 59 = false := by kernel_rfl
theorem us59 : (Try.prog.underlying 59).isSome = true := by kernel_rfl
theorem sz59 : sizeB Try.prog 59 = some 1 := by kernel_rfl
theorem na60 : isAggB Try.prog 60 = false := by kernel_rfl
theorem us60 : (Try.prog.underlying 60).isSome = true := by kernel_rfl
theorem sz60 : sizeB Try.prog 60 = some 1 := by kernel_rfl
theorem na61 : isAggB Try.prog 61 = false := by kernel_rfl
theorem us61 : (Try.prog.underlying 61).isSome = true := by kernel_rfl
theorem sz61 : sizeB Try.prog 61 = some 1 := by kernel_rfl
theorem na62 : isAggB Try.prog 62 = false := by kernel_rfl
theorem us62 : (Try.prog.underlying 62).isSome = true := by kernel_rfl
theorem sz62 : sizeB Try.prog 62 = some 1 := by kernel_rfl
theorem um62 : Try.prog.underlying 62 = some (.map 3 22) := by kernel_rfl
theorem na63 : isAggB Try.prog 63 = false := by kernel_rfl
theorem us63 : (Try.prog.underlying 63).isSome = true := by kernel_rfl
theorem sz63 : sizeB Try.prog 63 = some 1 := by kernel_rfl
theorem na64 : isAggB Try.prog 64 = false := by kernel_rfl
theorem us64 : (Try.prog.underlying 64).isSome = true := by kernel_rfl
theorem sz64 : sizeB Try.prog 64 = some 1 := by kernel_rfl
theorem na66 : isAggB Try.prog 66 = false := by kernel_rfl
theorem us66 : (Try.prog.underlying 66).isSome = true := by kernel_rfl
theorem sz66 : sizeB Try.prog 66 = some 1 := by kernel_rfl
theorem ag67 : isAggB Try.prog 67 = true := by kernel_rfl
theorem fd67_0 : fieldB Try.prog 67 0 = some (0, 1) := by kernel_rfl
theorem fd67_1 : fieldB Try.prog 67 1 = some (1, 1) := by kernel_rfl
theorem pl67 : placesB Try.prog 67 = some [(0, 1), (1, 1)] := by kernel_rfl
theorem sz67 : sizeB Try.prog 67 = some 2 := by kernel_rfl
theorem ag68 : isAggB Try.prog 68 = true := by kernel_rfl
theorem fd68_0 : fieldB Try.prog 68 0 = some (0, 1) := by kernel_rfl
theorem fd68_1 : fieldB Try.prog 68 1 = some (1, 1) := by kernel_rfl
theorem pl68 : placesB Try.prog 68 = some [(0, 1), (1, 1)] := by kernel_rfl
theorem sz68 : sizeB Try.prog 68 = some 2 := by kernel_rfl
theorem na69 : isAggB Try.prog 69 = false := by kernel_rfl
theorem us69 : (Try.prog.underlying 69).isSome = true := by kernel_rfl
theorem sz69 : sizeB Try.prog 69 = some 1 := by kernel_rfl
theorem um69 : Try.prog.underlying 69 = some (.map 3 4) := by kernel_rfl
theorem na70 : isAggB Try.prog 70 = false := by kernel_rfl
theorem us70 : (Try.prog.underlying 70).isSome = true := by kernel_rfl
theorem sz70 : sizeB Try.prog 70 = some 1 := by kernel_rfl
theorem ag71 : isAggB Try.prog 71 = true := by kernel_rfl
theorem fd71_0 : fieldB Try.prog 71 0 = some (0, 1) := by kernel_rfl
theorem fd71_1 : fieldB Try.prog 71 1 = some (1, 1) := by kernel_rfl
theorem eq71 : eqOkB Try.prog 71 2 = true := by kernel_rfl
theorem pl71 : placesB Try.prog 71 = some [(0, 1), (1, 1)] := by kernel_rfl
theorem sz71 : sizeB Try.prog 71 = some 2 := by kernel_rfl
theorem ag72 : isAggB Try.prog 72 = true := by kernel_rfl
theorem fd72_0 : fieldB Try.prog 72 0 = some (0, 1) := by kernel_rfl
theorem fd72_1 : fieldB Try.prog 72 1 = some (1, 1) := by kernel_rfl
theorem eq72 : eqOkB Try.prog 72 2 = true := by kernel_rfl
theorem pl72 : placesB Try.prog 72 = some [(0, 1), (1, 1)] := by kernel_rfl
theorem sz72 : sizeB Try.prog 72 = some 2 := by kernel_rfl
theorem na73 : isAggB Try.prog 73 = false := by kernel_rfl
theorem us73 : (Try.prog.underlying 73).isSome = true := by kernel_rfl
theorem sz73 : sizeB Try.prog 73 = some 1 := by kernel_rfl
theorem na74 : isAggB Try.prog 74 = false := by kernel_rfl
theorem us74 : (Try.prog.underlying 74).isSome = true := by kernel_rfl
theorem sz74 : sizeB Try.prog 74 = some 1 := by kernel_rfl
theorem na75 : isAggB Try.prog 75 = false := by kernel_rfl
theorem us75 : (Try.prog.underlying 75).isSome = true := by kernel_rfl
theorem sz75 : sizeB Try.prog 75 = some 1 := by kernel_rfl
theorem na76 : isAggB Try.prog 76 = false := by kernel_rfl
theorem us76 : (Try.prog.underlying 76).isSome = true := by kernel_rfl
theorem sz76 : sizeB Try.prog 76 = some 1 := by kernel_rfl
theorem na77 : isAggB Try.prog 77 = false := by kernel_rfl
theorem us77 : (Try.prog.underlying 77).isSome = true := by kernel_rfl
theorem sz77 : sizeB Try.prog 77 = some 1 := by kernel_rfl
theorem na78 : isAggB Try.prog 78 = false := by kernel_rfl
theorem us78 : (Try.prog.underlying 78).isSome = true := by kernel_rfl
theorem sz78 : sizeB Try.prog 78 = some 1 := by kernel_rfl
theorem na79 : isAggB Try.prog 79 = false := by kernel_rfl
theorem us79 : (Try.prog.underlying 79).isSome = true := by kernel_rfl
theorem sz79 : sizeB Try.prog 79 = some 1 := by kernel_rfl
theorem na80 : isAggB Try.prog 80 = false := by kernel_rfl
theorem us80 : (Try.prog.underlying 80).isSome = true := by kernel_rfl
theorem sz80 : sizeB Try.prog 80 = some 1 := by kernel_rfl
theorem na81 : isAggB Try.prog 81 = false := by kernel_rfl
theorem us81 : (Try.prog.underlying 81).isSome = true := by kernel_rfl
theorem sz81 : sizeB Try.prog 81 = some 1 := by kernel_rfl
theorem na82 : isAggB Try.prog 82 = false := by kernel_rfl
theorem us82 : (Try.prog.underlying 82).isSome = true := by kernel_rfl
theorem sz82 : sizeB Try.prog 82 = some 1 := by kernel_rfl
theorem na83 : isAggB Try.prog 83 = false := by kernel_rfl
theorem us83 : (Try.prog.underlying 83).isSome = true := by kernel_rfl
theorem sz83 : sizeB Try.prog 83 = some 1 := by kernel_rfl
theorem na84 : isAggB Try.prog 84 = false := by kernel_rfl
theorem us84 : (Try.prog.underlying 84).isSome = true := by kernel_rfl
theorem sz84 : sizeB Try.prog 84 = some 1 := by kernel_rfl
theorem na85 : isAggB Try.prog 85 = false := by kernel_rfl
theorem us85 : (Try.prog.underlying 85).isSome = true := by kernel_rfl
theorem sz85 : sizeB Try.prog 85 = some 1 := by kernel_rfl
theorem ag86 : isAggB Try.prog 86 = true := by kernel_rfl
theorem sz86 : sizeB Try.prog 86 = some 11 := by kernel_rfl
theorem un86 : Try.prog.underlying 86 = some (.array 11 3) := by kernel_rfl
theorem ag87 : isAggB Try.prog 87 = true := by kernel_rfl
theorem fd87_0 : fieldB Try.prog 87 0 = some (0, 1) := by kernel_rfl
theorem fd87_1 : fieldB Try.prog 87 1 = some (1, 1) := by kernel_rfl
theorem eq87 : eqOkB Try.prog 87 2 = true := by kernel_rfl
theorem pl87 : placesB Try.prog 87 = some [(0, 1), (1, 1)] := by kernel_rfl
theorem sz87 : sizeB Try.prog 87 = some 2 := by kernel_rfl
theorem ag88 : isAggB Try.prog 88 = true := by kernel_rfl
theorem fd88_0 : fieldB Try.prog 88 0 = some (0, 1) := by kernel_rfl
theorem fd88_1 : fieldB Try.prog 88 1 = some (1, 1) := by kernel_rfl
theorem eq88 : eqOkB Try.prog 88 2 = true := by kernel_rfl
theorem pl88 : placesB Try.prog 88 = some [(0, 1), (1, 1)] := by kernel_rfl
theorem sz88 : sizeB Try.prog 88 = some 2 := by kernel_rfl
theorem ag89 : isAggB Try.prog 89 = true := by kernel_rfl
theorem sz89 : sizeB Try.prog 89 = some 22 := by kernel_rfl
theorem un89 : Try.prog.underlying 89 = some (.array 11 88) := by kernel_rfl
theorem ag90 : isAggB Try.prog 90 = true := by kernel_rfl
theorem sz90 : sizeB Try.prog 90 = some 22 := by kernel_rfl
theorem un90 : Try.prog.underlying 90 = some (.array 11 88) := by kernel_rfl
theorem na91 : isAggB Try.prog 91 = false := by kernel_rfl
theorem us91 : (Try.prog.underlying 91).isSome = true := by kernel_rfl
theorem sz91 : sizeB Try.prog 91 = some 1 := by kernel_rfl
theorem na92 : isAggB Try.prog 92 = false := by kernel_rfl
theorem us92 : (Try.prog.underlying 92).isSome = true := by kernel_rfl
theorem sz92 : sizeB Try.prog 92 = some 1 := by kernel_rfl
theorem na94 : isAggB Try.prog 94 = false := by kernel_rfl
theorem us94 : (Try.prog.underlying 94).isSome = true := by kernel_rfl
theorem sz94 : sizeB Try.prog 94 = some 1 := by kernel_rfl
theorem na95 : isAggB Try.prog 95 = false := by kernel_rfl
theorem us95 : (Try.prog.underlying 95).isSome = true := by kernel_rfl
theorem sz95 : sizeB Try.prog 95 = some 1 := by kernel_rfl
theorem ag96 : isAggB Try.prog 96 = true := by kernel_rfl
theorem fd96_0 : fieldB Try.prog 96 0 = some (0, 1) := by kernel_rfl
theorem fd96_1 : fieldB Try.prog 96 1 = some (1, 1) := by kernel_rfl
theorem fd96_2 : fieldB Try.prog 96 2 = some (2, 1) := by kernel_rfl
theorem fd96_3 : fieldB Try.prog 96 3 = some (3, 1) := by kernel_rfl
theorem pl96 : placesB Try.prog 96 = some [(0, 1), (1, 1), (2, 1), (3, 1)] := by kernel_rfl
theorem sz96 : sizeB Try.prog 96 = some 4 := by kernel_rfl
theorem ag97 : isAggB Try.prog 97 = true := by kernel_rfl
theorem fd97_0 : fieldB Try.prog 97 0 = some (0, 1) := by kernel_rfl
theorem fd97_1 : fieldB Try.prog 97 1 = some (1, 1) := by kernel_rfl
theorem fd97_2 : fieldB Try.prog 97 2 = some (2, 1) := by kernel_rfl
theorem fd97_3 : fieldB Try.prog 97 3 = some (3, 1) := by kernel_rfl
theorem pl97 : placesB Try.prog 97 = some [(0, 1), (1, 1), (2, 1), (3, 1)] := by kernel_rfl
theorem sz97 : sizeB Try.prog 97 = some 4 := by kernel_rfl
theorem ag99 : isAggB Try.prog 99 = true := by kernel_rfl
theorem ag100 : isAggB Try.prog 100 = true := by kernel_rfl
theorem na101 : isAggB Try.prog 101 = false := by kernel_rfl
theorem us101 : (Try.prog.underlying 101).isSome = true := by kernel_rfl
theorem sz101 : sizeB Try.prog 101 = some 1 := by kernel_rfl
theorem un101 : Try.prog.underlying 101 = some (.int .u32) := by kernel_rfl
theorem na102 : isAggB Try.prog 102 = false := by kernel_rfl
theorem us102 : (Try.prog.underlying 102).isSome = true := by kernel_rfl
theorem sz102 : sizeB Try.prog 102 = some 1 := by kernel_rfl
theorem un102 : Try.prog.underlying 102 = some (.int .u8) := by kernel_rfl
theorem na103 : isAggB Try.prog 103 = false := by kernel_rfl
theorem us103 : (Try.prog.underlying 103).isSome = true := by kernel_rfl
theorem sz103 : sizeB Try.prog 103 = some 1 := by kernel_rfl
theorem un103 : Try.prog.underlying 103 = some (.int .u8) := by kernel_rfl
theorem na104 : isAggB Try.prog 104 = false := by kernel_rfl
theorem us104 : (Try.prog.underlying 104).isSome = true := by kernel_rfl
theorem sz104 : sizeB Try.prog 104 = some 1 := by kernel_rfl
theorem na105 : isAggB Try.prog 105 = false := by kernel_rfl
theorem us105 : (Try.prog.underlying 105).isSome = true := by kernel_rfl
theorem sz105 : sizeB Try.prog 105 = some 1 := by kernel_rfl
theorem na106 : isAggB Try.prog 106 = false := by kernel_rfl
theorem us106 : (Try.prog.underlying 106).isSome = true := by kernel_rfl
theorem sz106 : sizeB Try.prog 106 = some 1 := by kernel_rfl
theorem un106 : Try.prog.underlying 106 = some (.int .i32) := by kernel_rfl
theorem na107 : isAggB Try.prog 107 = false := by kernel_rfl
theorem us107 : (Try.prog.underlying 107).isSome = true := by kernel_rfl
theorem sz107 : sizeB Try.prog 107 = some 1 := by kernel_rfl
theorem un107 : Try.prog.underlying 107 = some (.int .i32) := by kernel_rfl
theorem ag108 : isAggB Try.prog 108 = true := by kernel_rfl
theorem fd108_0 : fieldB Try.prog 108 0 = some (0, 1) := by kernel_rfl
theorem fd108_1 : fieldB Try.prog 108 1 = some (1, 1) := by kernel_rfl
theorem fd108_2 : fieldB Try.prog 108 2 = some (2, 1) := by kernel_rfl
theorem fd108_3 : fieldB Try.prog 108 3 = some (3, 1) := by kernel_rfl
theorem fd108_4 : fieldB Try.prog 108 4 = some (4, 1) := by kernel_rfl
theorem fd108_5 : fieldB Try.prog 108 5 = some (5, 1) := by kernel_rfl
theorem fd108_6 : fieldB Try.prog 108 6 = some (6, 1) := by kernel_rfl
theorem fd108_7 : fieldB Try.prog 108 7 = some (7, 1) := by kernel_rfl
theorem fd108_8 : fieldB Try.prog 108 8 = some (8, 1) := by kernel_rfl
theorem fd108_9 : fieldB Try.prog 108 9 = some (9, 1) := by kernel_rfl
theorem fd108_10 : fieldB Try.prog 108 10 = some (10, 1) := by kernel_rfl
theorem pl108 : placesB Try.prog 108 = some [(0, 1), (1, 1), (2, 1), (3, 1), (4, 1), (5, 1), (6, 1), (7, 1), (8, 1), (9, 1), (10, 1)] := by kernel_rfl
theorem sz108 : sizeB Try.prog 108 = some 11 := by kernel_rfl
theorem ag109 : isAggB Try.prog 109 = true := by kernel_rfl
theorem fd109_0 : fieldB Try.prog 109 0 = some (0, 1) := by kernel_rfl
theorem fd109_1 : fieldB Try.prog 109 1 = some (1, 1) := by kernel_rfl
theorem fd109_2 : fieldB Try.prog 109 2 = some (2, 1) := by kernel_rfl
theorem fd109_3 : fieldB Try.prog 109 3 = some (3, 1) := by kernel_rfl
theorem fd109_4 : fieldB Try.prog 109 4 = some (4, 1) := by kernel_rfl
theorem fd109_5 : fieldB Try.prog 109 5 = some (5, 1) := by kernel_rfl
theorem fd109_6 : fieldB Try.prog 109 6 = some (6, 1) := by kernel_rfl
theorem fd109_7 : fieldB Try.prog 109 7 = some (7, 1) := by kernel_rfl
theorem fd109_8 : fieldB Try.prog 109 8 = some (8, 1) := by kernel_rfl
theorem fd109_9 : fieldB Try.prog 109 9 = some (9, 1) := by kernel_rfl
theorem fd109_10 : fieldB Try.prog 109 10 = some (10, 1) := by kernel_rfl
theorem pl109 : placesB Try.prog 109 = some [(0, 1), (1, 1), (2, 1), (3, 1), (4, 1), (5, 1), (6, 1), (7, 1), (8, 1), (9, 1), (10, 1)] := by kernel_rfl
theorem sz109 : sizeB Try.prog 109 = some 11 := by kernel_rfl
theorem in2 : (Try.prog.info? 2).map (fun i => (i.zero, i.size, i.bytes)) = some (some (.int .i64 0), 1, 8) := by kernel_rfl
theorem zr2 : zeroB Try.prog 2 = some (.int .i64 0) := by kernel_rfl
theorem in3 : (Try.prog.info? 3).map (fun i => (i.zero, i.size, i.bytes)) = some (some (.int .i64 0), 1, 8) := by kernel_rfl
theorem zr3 : zeroB Try.prog 3 = some (.int .i64 0) := by kernel_rfl
theorem in4 : (Try.prog.info? 4).map (fun i => (i.zero, i.size, i.bytes)) = some (some (.bool false), 1, 1) := by kernel_rfl
theorem zr4 : zeroB Try.prog 4 = some (.bool false) := by kernel_rfl
theorem un4 : Try.prog.underlying 4 = some .bool := by kernel_rfl
theorem in5 : (Try.prog.info? 5).map (fun i => (i.zero, i.size, i.bytes)) = some (some (.int .u8 0), 1, 1) := by kernel_rfl
theorem zr5 : zeroB Try.prog 5 = some (.int .u8 0) := by kernel_rfl
theorem in6 : (Try.prog.info? 6).map (fun i => (i.zero, i.size, i.bytes)) = some (some (.int .u8 0), 1, 1) := by kernel_rfl
theorem zr6 : zeroB Try.prog 6 = some (.int .u8 0) := by kernel_rfl
theorem in7 : (Try.prog.info? 7).map (fun i => (i.zero, i.size, i.bytes)) = some (some (.agg #[.int .i64 0, .int .i64 0, .bool false, .int .u8 0]), 4, 24) := by kernel_rfl
theorem zr7 : zeroB Try.prog 7 = some (.agg #[.int .i64 0, .int .i64 0, .bool false, .int .u8 0]) := by kernel_rfl
theorem in8 : (Try.prog.info? 8).map (fun i => (i.zero, i.size, i.bytes)) = some (some (.agg #[.int .i64 0, .int .i64 0, .bool false, .int .u8 0]), 4, 24) := by kernel_rfl
theorem zr8 : zeroB Try.prog 8 = some (.agg #[.int .i64 0, .int .i64 0, .bool false, .int .u8 0]) := by kernel_rfl
theorem in12 : (Try.prog.info? 12).map (fun i => (i.zero, i.size, i.bytes)) = some (some (.int .u64 0), 1, 8) := by kernel_rfl
theorem zr12 : zeroB Try.prog 12 = some (.int .u64 0) := by kernel_rfl
theorem in15 : (Try.prog.info? 15).map (fun i => (i.zero, i.size, i.bytes)) = some (some (.pointer none), 1, 8) := by kernel_rfl
theorem zr15 : zeroB Try.prog 15 = some (.pointer none) := by kernel_rfl
theorem in16 : (Try.prog.info? 16).map (fun i => (i.zero, i.size, i.bytes)) = some (some (.pointer none), 1, 8) := by kernel_rfl
theorem zr16 : zeroB Try.prog 16 = some (.pointer none) := by kernel_rfl
theorem in17 : (Try.prog.info? 17).map (fun i => (i.zero, i.size, i.bytes)) = some (some (.pointer none), 1, 8) := by kernel_rfl
theorem zr17 : zeroB Try.prog 17 = some (.pointer none) := by kernel_rfl
theorem in18 : (Try.prog.info? 18).map (fun i => (i.zero, i.size, i.bytes)) = some (some (.agg #[.pointer none]), 1, 8) := by kernel_rfl
theorem zr18 : zeroB Try.prog 18 = some (.agg #[.pointer none]) := by kernel_rfl
theorem in19 : (Try.prog.info? 19).map (fun i => (i.zero, i.size, i.bytes)) = some (some (.agg #[.pointer none]), 1, 8) := by kernel_rfl
theorem zr19 : zeroB Try.prog 19 = some (.agg #[.pointer none]) := by kernel_rfl
theorem in21 : (Try.prog.info? 21).map (fun i => (i.zero, i.size, i.bytes)) = some (some (.int .i32 0), 1, 4) := by kernel_rfl
theorem zr21 : zeroB Try.prog 21 = some (.int .i32 0) := by kernel_rfl
theorem in22 : (Try.prog.info? 22).map (fun i => (i.zero, i.size, i.bytes)) = some (some (.slice none 0 0), 1, 24) := by kernel_rfl
theorem zr22 : zeroB Try.prog 22 = some (.slice none 0 0) := by kernel_rfl
theorem in23 : (Try.prog.info? 23).map (fun i => (i.zero, i.size, i.bytes)) = some (some (.slice none 0 0), 1, 24) := by kernel_rfl
theorem zr23 : zeroB Try.prog 23 = some (.slice none 0 0) := by kernel_rfl
theorem in25 : (Try.prog.info? 25).map (fun i => (i.zero, i.size, i.bytes)) = some (some (.pointer none), 1, 8) := by kernel_rfl
theorem zr25 : zeroB Try.prog 25 = some (.pointer none) := by kernel_rfl
theorem in28 : (Try.prog.info? 28).map (fun i => (i.zero, i.size, i.bytes)) = some (some (.int .i64 0), 1, 8) := by kernel_rfl
theorem zr28 : zeroB Try.prog 28 = some (.int .i64 0) := by kernel_rfl
theorem in37 : (Try.prog.info? 37).map (fun i => (i.zero, i.size, i.bytes)) = some (some (.agg #[.int .i64 0, .int .i64 0]), 2, 16) := by kernel_rfl
theorem zr37 : zeroB Try.prog 37 = some (.agg #[.int .i64 0, .int .i64 0]) := by kernel_rfl
theorem in38 : (Try.prog.info? 38).map (fun i => (i.zero, i.size, i.bytes)) = some (some (.agg #[.int .i64 0, .int .i64 0]), 2, 16) := by kernel_rfl
theorem zr38 : zeroB Try.prog 38 = some (.agg #[.int .i64 0, .int .i64 0]) := by kernel_rfl
theorem in39 : (Try.prog.info? 39).map (fun i => (i.zero, i.size, i.bytes)) = some (some (.slice none 0 0), 1, 24) := by kernel_rfl
theorem zr39 : zeroB Try.prog 39 = some (.slice none 0 0) := by kernel_rfl
theorem in40 : (Try.prog.info? 40).map (fun i => (i.zero, i.size, i.bytes)) = some (some (.agg #[.int .i64 0, .int .i64 0, .int .i64 0, .int .i64 0, .slice none 0 0, .slice none 0 0, .int .i64 0, .int .i64 0, .int .i64 0, .int .i64 0, .int .i64 0, .int .i64 0, .int .i64 0, .int .i64 0, .int .i64 0, .int .i64 0, .slice none 0 0, .bool false, .int .i64 0, .slice none 0 0, .slice none 0 0]), 21, 248) := by kernel_rfl
theorem zr40 : zeroB Try.prog 40 = some (.agg #[.int .i64 0, .int .i64 0, .int .i64 0, .int .i64 0, .slice none 0 0, .slice none 0 0, .int .i64 0, .int .i64 0, .int .i64 0, .int .i64 0, .int .i64 0, .int .i64 0, .int .i64 0, .int .i64 0, .int .i64 0, .int .i64 0, .slice none 0 0, .bool false, .int .i64 0, .slice none 0 0, .slice none 0 0]) := by kernel_rfl
theorem in41 : (Try.prog.info? 41).map (fun i => (i.zero, i.size, i.bytes)) = some (some (.agg #[.int .i64 0, .int .i64 0, .int .i64 0, .int .i64 0, .slice none 0 0, .slice none 0 0, .int .i64 0, .int .i64 0, .int .i64 0, .int .i64 0, .int .i64 0, .int .i64 0, .int .i64 0, .int .i64 0, .int .i64 0, .int .i64 0, .slice none 0 0, .bool false, .int .i64 0, .slice none 0 0, .slice none 0 0]), 21, 248) := by kernel_rfl
theorem zr41 : zeroB Try.prog 41 = some (.agg #[.int .i64 0, .int .i64 0, .int .i64 0, .int .i64 0, .slice none 0 0, .slice none 0 0, .int .i64 0, .int .i64 0, .int .i64 0, .int .i64 0, .int .i64 0, .int .i64 0, .int .i64 0, .int .i64 0, .int .i64 0, .int .i64 0, .slice none 0 0, .bool false, .int .i64 0, .slice none 0 0, .slice none 0 0]) := by kernel_rfl
theorem in50 : (Try.prog.info? 50).map (fun i => (i.zero, i.size, i.bytes)) = some (some (.int .u64 0), 1, 8) := by kernel_rfl
theorem zr50 : zeroB Try.prog 50 = some (.int .u64 0) := by kernel_rfl
theorem in51 : (Try.prog.info? 51).map (fun i => (i.zero, i.size, i.bytes)) = some (some (.pointer none), 1, 8) := by kernel_rfl
theorem zr51 : zeroB Try.prog 51 = some (.pointer none) := by kernel_rfl
theorem in52 : (Try.prog.info? 52).map (fun i => (i.zero, i.size, i.bytes)) = some (some (.slice none 0 0), 1, 24) := by kernel_rfl
theorem zr52 : zeroB Try.prog 52 = some (.slice none 0 0) := by kernel_rfl
theorem in53 : (Try.prog.info? 53).map (fun i => (i.zero, i.size, i.bytes)) = some (some (.agg #[.slice none 0 0, .slice none 0 0]), 2, 48) := by kernel_rfl
theorem zr53 : zeroB Try.prog 53 = some (.agg #[.slice none 0 0, .slice none 0 0]) := by kernel_rfl
theorem in54 : (Try.prog.info? 54).map (fun i => (i.zero, i.size, i.bytes)) = some (some (.agg #[.slice none 0 0, .slice none 0 0]), 2, 48) := by kernel_rfl
theorem zr54 : zeroB Try.prog 54 = some (.agg #[.slice none 0 0, .slice none 0 0]) := by kernel_rfl
theorem in62 : (Try.prog.info? 62).map (fun i => (i.zero, i.size, i.bytes)) = some (some (.map none), 1, 8) := by kernel_rfl
theorem zr62 : zeroB Try.prog 62 = some (.map none) := by kernel_rfl
theorem in67 : (Try.prog.info? 67).map (fun i => (i.zero, i.size, i.bytes)) = some (some (.agg #[.slice none 0 0, .int .i64 0]), 2, 32) := by kernel_rfl
theorem zr67 : zeroB Try.prog 67 = some (.agg #[.slice none 0 0, .int .i64 0]) := by kernel_rfl
theorem in68 : (Try.prog.info? 68).map (fun i => (i.zero, i.size, i.bytes)) = some (some (.agg #[.slice none 0 0, .int .i64 0]), 2, 32) := by kernel_rfl
theorem zr68 : zeroB Try.prog 68 = some (.agg #[.slice none 0 0, .int .i64 0]) := by kernel_rfl
theorem in69 : (Try.prog.info? 69).map (fun i => (i.zero, i.size, i.bytes)) = some (some (.map none), 1, 8) := by kernel_rfl
theorem zr69 : zeroB Try.prog 69 = some (.map none) := by kernel_rfl
theorem in71 : (Try.prog.info? 71).map (fun i => (i.zero, i.size, i.bytes)) = some (some (.agg #[.int .i64 0, .int .i64 0]), 2, 16) := by kernel_rfl
theorem zr71 : zeroB Try.prog 71 = some (.agg #[.int .i64 0, .int .i64 0]) := by kernel_rfl
theorem in72 : (Try.prog.info? 72).map (fun i => (i.zero, i.size, i.bytes)) = some (some (.agg #[.int .i64 0, .int .i64 0]), 2, 16) := by kernel_rfl
theorem zr72 : zeroB Try.prog 72 = some (.agg #[.int .i64 0, .int .i64 0]) := by kernel_rfl
theorem in86 : (Try.prog.info? 86).map (fun i => (i.zero, i.size, i.bytes)) = some (some (.agg #[.int .i64 0, .int .i64 0, .int .i64 0, .int .i64 0, .int .i64 0, .int .i64 0, .int .i64 0, .int .i64 0, .int .i64 0, .int .i64 0, .int .i64 0]), 11, 88) := by kernel_rfl
theorem zr86 : zeroB Try.prog 86 = some (.agg #[.int .i64 0, .int .i64 0, .int .i64 0, .int .i64 0, .int .i64 0, .int .i64 0, .int .i64 0, .int .i64 0, .int .i64 0, .int .i64 0, .int .i64 0]) := by kernel_rfl
theorem in87 : (Try.prog.info? 87).map (fun i => (i.zero, i.size, i.bytes)) = some (some (.agg #[.int .i64 0, .int .i64 0]), 2, 16) := by kernel_rfl
theorem zr87 : zeroB Try.prog 87 = some (.agg #[.int .i64 0, .int .i64 0]) := by kernel_rfl
theorem in88 : (Try.prog.info? 88).map (fun i => (i.zero, i.size, i.bytes)) = some (some (.agg #[.int .i64 0, .int .i64 0]), 2, 16) := by kernel_rfl
theorem zr88 : zeroB Try.prog 88 = some (.agg #[.int .i64 0, .int .i64 0]) := by kernel_rfl
theorem in89 : (Try.prog.info? 89).map (fun i => (i.zero, i.size, i.bytes)) = some (some (.agg #[.int .i64 0, .int .i64 0, .int .i64 0, .int .i64 0, .int .i64 0, .int .i64 0, .int .i64 0, .int .i64 0, .int .i64 0, .int .i64 0, .int .i64 0, .int .i64 0, .int .i64 0, .int .i64 0, .int .i64 0, .int .i64 0, .int .i64 0, .int .i64 0, .int .i64 0, .int .i64 0, .int .i64 0, .int .i64 0]), 22, 176) := by kernel_rfl
theorem zr89 : zeroB Try.prog 89 = some (.agg #[.int .i64 0, .int .i64 0, .int .i64 0, .int .i64 0, .int .i64 0, .int .i64 0, .int .i64 0, .int .i64 0, .int .i64 0, .int .i64 0, .int .i64 0, .int .i64 0, .int .i64 0, .int .i64 0, .int .i64 0, .int .i64 0, .int .i64 0, .int .i64 0, .int .i64 0, .int .i64 0, .int .i64 0, .int .i64 0]) := by kernel_rfl
theorem in90 : (Try.prog.info? 90).map (fun i => (i.zero, i.size, i.bytes)) = some (some (.agg #[.int .i64 0, .int .i64 0, .int .i64 0, .int .i64 0, .int .i64 0, .int .i64 0, .int .i64 0, .int .i64 0, .int .i64 0, .int .i64 0, .int .i64 0, .int .i64 0, .int .i64 0, .int .i64 0, .int .i64 0, .int .i64 0, .int .i64 0, .int .i64 0, .int .i64 0, .int .i64 0, .int .i64 0, .int .i64 0]), 22, 176) := by kernel_rfl
theorem zr90 : zeroB Try.prog 90 = some (.agg #[.int .i64 0, .int .i64 0, .int .i64 0, .int .i64 0, .int .i64 0, .int .i64 0, .int .i64 0, .int .i64 0, .int .i64 0, .int .i64 0, .int .i64 0, .int .i64 0, .int .i64 0, .int .i64 0, .int .i64 0, .int .i64 0, .int .i64 0, .int .i64 0, .int .i64 0, .int .i64 0, .int .i64 0, .int .i64 0]) := by kernel_rfl
theorem in101 : (Try.prog.info? 101).map (fun i => (i.zero, i.size, i.bytes)) = some (some (.int .u32 0), 1, 4) := by kernel_rfl
theorem zr101 : zeroB Try.prog 101 = some (.int .u32 0) := by kernel_rfl
theorem in102 : (Try.prog.info? 102).map (fun i => (i.zero, i.size, i.bytes)) = some (some (.int .u8 0), 1, 1) := by kernel_rfl
theorem zr102 : zeroB Try.prog 102 = some (.int .u8 0) := by kernel_rfl
theorem in103 : (Try.prog.info? 103).map (fun i => (i.zero, i.size, i.bytes)) = some (some (.int .u8 0), 1, 1) := by kernel_rfl
theorem zr103 : zeroB Try.prog 103 = some (.int .u8 0) := by kernel_rfl
theorem in105 : (Try.prog.info? 105).map (fun i => (i.zero, i.size, i.bytes)) = some (some (.pointer none), 1, 8) := by kernel_rfl
theorem zr105 : zeroB Try.prog 105 = some (.pointer none) := by kernel_rfl
theorem in106 : (Try.prog.info? 106).map (fun i => (i.zero, i.size, i.bytes)) = some (some (.int .i32 0), 1, 4) := by kernel_rfl
theorem zr106 : zeroB Try.prog 106 = some (.int .i32 0) := by kernel_rfl
theorem in107 : (Try.prog.info? 107).map (fun i => (i.zero, i.size, i.bytes)) = some (some (.int .i32 0), 1, 4) := by kernel_rfl
theorem zr107 : zeroB Try.prog 107 = some (.int .i32 0) := by kernel_rfl
theorem mixed : Try.prog.follows .mixedOrders = true := by kernel_rfl
end Go.Proofs.Ytfekcgnnhjmeiaa
