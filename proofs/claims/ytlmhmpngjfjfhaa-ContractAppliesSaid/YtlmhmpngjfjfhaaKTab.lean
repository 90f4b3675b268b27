/- Closed facts on the types of this translation, each reckoned by the kernel. Written by a small program. -/
import Derived.Test.YtlmhmpngjfjfhaaKDet
import Derived.Test.YtlmhmpngjfjfhaaRows
import Derived.KernelRfl
namespace Go.Proofs.Ytlmhmpngjfjfhaa
theorem na1 : isAggB Try.prog 1 = false := by kernel_rfl
theorem us1 : (Try.prog.underlying 1).isSome = true := by kernel_rfl
theorem sz1 : sizeB Try.prog 1 = some 1 := by kernel_rfl
theorem na2 : isAggB Try.prog 2 = false := by kernel_rfl
theorem us2 : (Try.prog.underlying 2).isSome = true := by kernel_rfl
theorem sz2 : sizeB Try.prog 2 = some 1 := by kernel_rfl
theorem un2 : Try.prog.underlying 2 = some (.int .i64) := by kernel_rfl
theorem na3 : isAggB Try.prog 3 = false := by kernel_rfl
theorem us3 : (Try.prog.underlying 3).isSome = true := by kernel_rfl
theorem sz3 : sizeB Try.prog 3 = some 1 := by kernel_rfl
theorem un3 : Try.prog.underlying 3 = some (.int .i64) := by kernel_rfl
theorem na4 : isAggB Try.prog 4 = false := by kernel_rfl
theorem us4 : (Try.prog.underlying 4).isSome = true := by kernel_rfl
theorem sz4 : sizeB Try.prog 4 = some 1 := by kernel_rfl
theorem na5 : isAggB Try.prog 5 = false := by kernel_rfl
theorem us5 : (Try.prog.underlying 5).isSome = true := by kernel_rfl
theorem sz5 : sizeB Try.prog 5 = some 1 := by kernel_rfl
theorem un5 : Try.prog.underlying 5 = some (.int .u8) := by kernel_rfl
theorem na6 : isAggB Try.prog 6 = false := by kernel_rfl
theorem us6 : (Try.prog.underlying 6).isSome = true := by kernel_rfl
theorem sz6 : sizeB Try.prog 6 = some 1 := by kernel_rfl
theorem un6 : Try.prog.underlying 6 = some (.int .u8) := by kernel_rfl
theorem ag7 : isAggB Try.prog 7 = true := by kernel_rfl
theorem fd7_0 : fieldB Try.prog 7 0 = some (0, 1) := by kernel_rfl
theorem fd7_1 : fieldB Try.prog 7 1 = some (1, 1) := by kernel_rfl
theorem fd7_2 : fieldB Try.prog 7 2 = some (2, 1) := by kernel_rfl
theorem fd7_3 : fieldB Try.prog 7 3 = some (3, 1) := by kernel_rfl
theorem pl7 : placesB Try.prog 7 = some [(0, 1), (1, 1), (2, 1), (3, 1)] := by kernel_rfl
theorem sz7 : sizeB Try.prog 7 = some 4 := by kernel_rfl
theorem ag8 : isAggB Try.prog 8 = true := by kernel_rfl
theorem fd8_0 : fieldB Try.prog 8 0 = some (0, 1) := by kernel_rfl
theorem fd8_1 : fieldB Try.prog 8 1 = some (1, 1) := by kernel_rfl
theorem fd8_2 : fieldB Try.prog 8 2 = some (2, 1) := by kernel_rfl
theorem fd8_3 : fieldB Try.prog 8 3 = some (3, 1) := by kernel_rfl
theorem pl8 : placesB Try.prog 8 = some [(0, 1), (1, 1), (2, 1), (3, 1)] := by kernel_rfl
theorem sz8 : sizeB Try.prog 8 = some 4 := by kernel_rfl
theorem na9 : isAggB Try.prog 9 = false := by kernel_rfl
theorem us9 : (Try.prog.underlying 9).isSome = true := by kernel_rfl
theorem sz9 : sizeB Try.prog 9 = some 1 := by kernel_rfl
theorem na10 : isAggB Try.prog 10 = false := by kernel_rfl
theorem us10 : (Try.prog.underlying 10).isSome = true := by kernel_rfl
theorem sz10 : sizeB Try.prog 10 = some 1 := by kernel_rfl
theorem na11 : isAggB Try.prog 11 = false := by kernel_rfl
theorem us11 : (Try.prog.underlying 11).isSome = true := by kernel_rfl
theorem sz11 : sizeB Try.prog 11 = some 1 := by kernel_rfl
theorem na12 : isAggB Try.prog 12 = false := by kernel_rfl
theorem us12 : (Try.prog.underlying 12).isSome = true := by kernel_rfl
theorem sz12 : sizeB Try.prog 12 = some 1 := by kernel_rfl
theorem un12 : Try.prog.underlying 12 = some (.int .u64) := by kernel_rfl
theorem ag13 : isAggB Try.prog 13 = true := by kernel_rfl
theorem fd13_0 : fieldB Try.prog 13 0 = some (0, 1) := by kernel_rfl
theorem fd13_1 : fieldB Try.prog 13 1 = some (1, 1) := by kernel_rfl
theorem pl13 : placesB Try.prog 13 = some [(0, 1), (1, 1)] := by kernel_rfl
theorem sz13 : sizeB Try.prog 13 = some 2 := by kernel_rfl
theorem ag14 : isAggB Try.prog 14 = true := by kernel_rfl
theorem fd14_0 : fieldB Try.prog 14 0 = some (0, 1) := by kernel_rfl
theorem fd14_1 : fieldB Try.prog 14 1 = some (1, 1) := by kernel_rfl
theorem pl14 : placesB Try.prog 14 = some [(0, 1), (1, 1)] := by kernel_rfl
theorem sz14 : sizeB Try.prog 14 = some 2 := by kernel_rfl
theorem na15 : isAggB Try.prog 15 = false := by kernel_rfl
theorem us15 : (Try.prog.underlying 15).isSome = true := by kernel_rfl
theorem sz15 : sizeB Try.prog 15 = some 1 := by kernel_rfl
theorem na16 : isAggB Try.prog 16 = false := by kernel_rfl
theorem us16 : (Try.prog.underlying 16).isSome = true := by kernel_rfl
theorem sz16 : sizeB Try.prog 16 = some 1 := by kernel_rfl
theorem na17 : isAggB Try.prog 17 = false := by kernel_rfl
theorem us17 : (Try.prog.underlying 17).isSome = true := by kernel_rfl
theorem sz17 : sizeB Try.prog 17 = some 1 := by kernel_rfl
theorem ag18 : isAggB Try.prog 18 = true := by kernel_rfl
theorem fd18_0 : fieldB Try.prog 18 0 = some (0, 1) := by kernel_rfl
theorem pl18 : placesB Try.prog 18 = some [(0, 1)] := by kernel_rfl
theorem sz18 : sizeB Try.prog 18 = some 1 := by kernel_rfl
theorem ag19 : isAggB Try.prog 19 = true := by kernel_rfl
theorem fd19_0 : fieldB Try.prog 19 0 = some (0, 1) := by kernel_rfl
theorem pl19 : placesB Try.prog 19 = some [(0, 1)] := by kernel_rfl
theorem sz19 : sizeB Try.prog 19 = some 1 := by kernel_rfl
theorem na21 : isAggB Try.prog 21 = false := by kernel_rfl
theorem us21 : (Try.prog.underlying 21).isSome = true := by kernel_rfl
theorem sz21 : sizeB Try.prog 21 = some 1 := by kernel_rfl
theorem un21 : Try.prog.underlying 21 = some (.int .i32) := by kernel_rfl
theorem na22 : isAggB Try.prog 22 = false := by kernel_rfl
theorem us22 : (Try.prog.underlying 22).isSome = true := by kernel_rfl
theorem sz22 : sizeB Try.prog 22 = some 1 := by kernel_rfl
theorem un22 : Try.prog.underlying 22 = some (.slice 25) := by kernel_rfl
theorem na23 : isAggB Try.prog 23 = false := by kernel_rfl
theorem us23 : (Try.prog.underlying 23).isSome = true := by kernel_rfl
theorem sz23 : sizeB Try.prog 23 = some 1 := by kernel_rfl
theorem un23 : Try.prog.underlying 23 = some (.slice 3) := by kernel_rfl
theorem ag24 : isAggB Try.prog 24 = true := by kernel_rfl
theorem fd24_0 : fieldB Try.prog 24 0 = some (0, 1) := by kernel_rfl
theorem fd24_1 : fieldB Try.prog 24 1 = some (1, 1) := by kernel_rfl
theorem eq24 : eqOkB Try.prog 24 2 = true := by kernel_rfl
theorem pl24 : placesB Try.prog 24 = some [(0, 1), (1, 1)] := by kernel_rfl
theorem sz24 : sizeB Try.prog 24 = some 2 := by kernel_rfl
theorem ag25 : isAggB Try.prog 25 = true := by kernel_rfl
theorem fd25_0 : fieldB Try.prog 25 0 = some (0, 1) := by kernel_rfl
theorem fd25_1 : fieldB Try.prog 25 1 = some (1, 1) := by kernel_rfl
theorem eq25 : eqOkB Try.prog 25 2 = true := by kernel_rfl
theorem pl25 : placesB Try.prog 25 = some [(0, 1), (1, 1)] := by kernel_rfl
theorem sz25 : sizeB Try.prog 25 = some 2 := by kernel_rfl
theorem na26 : isAggB Try.prog 26 = false := by kernel_rfl
theorem us26 : (Try.prog.underlying 26).isSome = true := by kernel_rfl
theorem sz26 : sizeB Try.prog 26 = some 1 := by kernel_rfl
theorem na27 : isAggB Try.prog 27 = false := by kernel_rfl
theorem us27 : (Try.prog.underlying 27).isSome = true := by kernel_rfl
theorem sz27 : sizeB Try.prog 27 = some 1 := by kernel_rfl
theorem na28 : isAggB Try.prog 28 = false := by kernel_rfl
theorem us28 : (Try.prog.underlying 28).isSome = true := by kernel_rfl
theorem sz28 : sizeB Try.prog 28 = some 1 := by kernel_rfl
theorem na29 : isAggB Try.prog 29 = false := by kernel_rfl
theorem us29 : (Try.prog.underlying 29).isSome = true := by kernel_rfl
theorem sz29 : sizeB Try.prog 29 = some 1 := by kernel_rfl
theorem na30 : isAggB Try.prog 30 = false := by kernel_rfl
theorem us30 : (Try.prog.underlying 30).isSome = true := by kernel_rfl
theorem sz30 : sizeB Try.prog 30 = some 1 := by kernel_rfl
theorem na31 : isAggB Try.prog 31 = false := by kernel_rfl
theorem us31 : (Try.prog.underlying 31).isSome = true := by kernel_rfl
theorem sz31 : sizeB Try.prog 31 = some 1 := by kernel_rfl
theorem un31 : Try.prog.underlying 31 = some (.int .i64) := by kernel_rfl
theorem na32 : isAggB Try.prog 32 = false := by kernel_rfl
theorem us32 : (Try.prog.underlying 32).isSome = true := by kernel_rfl
theorem sz32 : sizeB Try.prog 32 = some 1 := by kernel_rfl
theorem na33 : isAggB Try.prog 33 = false := by kernel_rfl
theorem us33 : (Try.prog.underlying 33).isSome = true := by kernel_rfl
theorem sz33 : sizeB Try.prog 33 = some 1 := by kernel_rfl
theorem na35 : isAggB Try.prog 35 = false := by kernel_rfl
theorem us35 : (Try.prog.underlying 35).isSome = true := by kernel_rfl
theorem sz35 : sizeB Try.prog 35 = some 1 := by kernel_rfl
theorem na36 : isAggB Try.prog 36 = false := by kernel_rfl
theorem us36 : (Try.prog.underlying 36).isSome = true := by kernel_rfl
theorem sz36 : sizeB Try.prog 36 = some 1 := by kernel_rfl
theorem na37 : isAggB Try.prog 37 = false := by kernel_rfl
theorem us37 : (Try.prog.underlying 37).isSome = true := by kernel_rfl
theorem sz37 : sizeB Try.prog 37 = some 1 := by kernel_rfl
theorem na38 : isAggB Try.prog 38 = false := by kernel_rfl
theorem us38 : (Try.prog.underlying 38).isSome = true := by kernel_rfl
theorem sz38 : sizeB Try.prog 38 = some 1 := by kernel_rfl
theorem na39 : isAggB Try.prog 39 = false := by kernel_rfl
theorem us39 : (Try.prog.underlying 39).isSome = true := by kernel_rfl
theorem sz39 : sizeB Try.prog 39 = some 1 := by kernel_rfl
theorem na41 : isAggB Try.prog 41 = false := by kernel_rfl
theorem us41 : (Try.prog.underlying 41).isSome = true := by kernel_rfl
theorem sz41 : sizeB Try.prog 41 = some 1 := by kernel_rfl
theorem na42 : isAggB Try.prog 42 = false := by kernel_rfl
theorem us42 : (Try.prog.underlying 42).isSome = true := by kernel_rfl
theorem sz42 : sizeB Try.prog 42 = some 1 := by kernel_rfl
theorem na43 : isAggB Try.prog 43 = false := by kernel_rfl
theorem us43 : (Try.prog.underlying 43).isSome = true := by kernel_rfl
theorem sz43 : sizeB Try.prog 43 = some 1 := by kernel_rfl
theorem na44 : isAggB Try.prog 44 = false := by kernel_rfl
theorem us44 : (Try.prog.underlying 44).isSome = true := by kernel_rfl
theorem sz44 : sizeB Try.prog 44 = some 1 := by kernel_rfl
theorem na45 : isAggB Try.prog 45 = false := by kernel_rfl
theorem us45 : (Try.prog.underlying 45).isSome = true := by kernel_rfl
theorem sz45 : sizeB Try.prog 45 = some 1 := by kernel_rfl
theorem ag46 : isAggB Try.prog 46 = true := by kernel_rfl
theorem fd46_0 : fieldB Try.prog 46 0 = some (0, 1) := by kernel_rfl
theorem fd46_1 : fieldB Try.prog 46 1 = some (1, 1) := by kernel_rfl
theorem eq46 : eqOkB Try.prog 46 2 = true := by kernel_rfl
theorem pl46 : placesB Try.prog 46 = some [(0, 1), (1, 1)] := by kernel_rfl
theorem sz46 : sizeB Try.prog 46 = some 2 := by kernel_rfl
theorem ag47 : isAggB Try.prog 47 = true := by kernel_rfl
theorem fd47_0 : fieldB Try.prog 47 0 = some (0, 1) := by kernel_rfl
theorem fd47_1 : fieldB Try.prog 47 1 = some (1, 1) := by kernel_rfl
theorem eq47 : eqOkB Try.prog 47 2 = true := by kernel_rfl
theorem pl47 : placesB Try.prog 47 = some [(0, 1), (1, 1)] := by kernel_rfl
theorem sz47 : sizeB Try.prog 47 = some 2 := by kernel_rfl
theorem ag48 : isAggB Try.prog 48 = true := by kernel_rfl
theorem fd48_0 : fieldB Try.prog 48 0 = some (0, 1) := by kernel_rfl
theorem fd48_1 : fieldB Try.prog 48 1 = some (1, 1) := by kernel_rfl
theorem fd48_2 : fieldB Try.prog 48 2 = some (2, 2) := by kernel_rfl
theorem fd48_3 : fieldB Try.prog 48 3 = some (4, 1) := by kernel_rfl
theorem fd48_4 : fieldB Try.prog 48 4 = some (5, 1) := by kernel_rfl
theorem fd48_5 : fieldB Try.prog 48 5 = some (6, 1) := by kernel_rfl
theorem fd48_6 : fieldB Try.prog 48 6 = some (7, 1) := by kernel_rfl
theorem fd48_7 : fieldB Try.prog 48 7 = some (8, 1) := by kernel_rfl
theorem fd48_8 : fieldB Try.prog 48 8 = some (9, 1) := by kernel_rfl
theorem fd48_9 : fieldB Try.prog 48 9 = some (10, 1) := by kernel_rfl
theorem fd48_10 : fieldB Try.prog 48 10 = some (11, 1) := by kernel_rfl
theorem fd48_11 : fieldB Try.prog 48 11 = some (12, 1) := by kernel_rfl
theorem fd48_12 : fieldB Try.prog 48 12 = some (13, 1) := by kernel_rfl
theorem fd48_13 : fieldB Try.prog 48 13 = some (14, 1) := by kernel_rfl
theorem fd48_14 : fieldB Try.prog 48 14 = some (15, 1) := by kernel_rfl
theorem fd48_15 : fieldB Try.prog 48 15 = some (16, 1) := by kernel_rfl
theorem fd48_16 : fieldB Try.prog 48 16 = some (17, 1) := by kernel_rfl
theorem fd48_17 : fieldB Try.prog 48 17 = some (18, 1) := by kernel_rfl
theorem fd48_18 : fieldB Try.prog 48 18 = some (19, 1) := by kernel_rfl
theorem fd48_19 : fieldB Try.prog 48 19 = some (20, 1) := by kernel_rfl
theorem pl48 : placesB Try.prog 48 = some [(0, 1), (1, 1), (2, 2), (4, 1), (5, 1), (6, 1), (7, 1), (8, 1), (9, 1), (10, 1), (11, 1), (12, 1), (13, 1), (14, 1), (15, 1), (16, 1), (17, 1), (18, 1), (19, 1), (20, 1)] := by kernel_rfl
theorem sz48 : sizeB Try.prog 48 = some 21 := by kernel_rfl
theorem ag49 : isAggB Try.prog 49 = true := by kernel_rfl
theorem fd49_0 : fieldB Try.prog 49 0 = some (0, 1) := by kernel_rfl
theorem fd49_1 : fieldB Try.prog 49 1 = some (1, 1) := by kernel_rfl
theorem fd49_2 : fieldB Try.prog 49 2 = some (2, 2) := by kernel_rfl
theorem fd49_3 : fieldB Try.prog 49 3 = some (4, 1) := by kernel_rfl
theorem fd49_4 : fieldB Try.prog 49 4 = some (5, 1) := by kernel_rfl
theorem fd49_5 : fieldB Try.prog 49 5 = some (6, 1) := by kernel_rfl
theorem fd49_6 : fieldB Try.prog 49 6 = some (7, 1) := by kernel_rfl
theorem fd49_7 : fieldB Try.prog 49 7 = some (8, 1) := by kernel_rfl
theorem fd49_8 : fieldB Try.prog 49 8 = some (9, 1) := by kernel_rfl
theorem fd49_9 : fieldB Try.prog 49 9 = some (10, 1) := by kernel_rfl
theorem fd49_10 : fieldB Try.prog 49 10 = some (11, 1) := by kernel_rfl
theorem fd49_11 : fieldB Try.prog 49 11 = some (12, 1) := by kernel_rfl
theorem fd49_12 : fieldB Try.prog 49 12 = some (13, 1) := by kernel_rfl
theorem fd49_13 : fieldB Try.prog 49 13 = some (14, 1) := by kernel_rfl
theorem fd49_14 : fieldB Try.prog 49 14 = some (15, 1) := by kernel_rfl
theorem fd49_15 : fieldB Try.prog 49 15 = some (16, 1) := by kernel_rfl
theorem fd49_16 : fieldB Try.prog 49 16 = some (17, 1) := by kernel_rfl
theorem fd49_17 : fieldB Try.prog 49 17 = some (18, 1) := by kernel_rfl
theorem fd49_18 : fieldB Try.prog 49 18 = some (19, 1) := by kernel_rfl
theorem fd49_19 : fieldB Try.prog 49 19 = some (20, 1) := by kernel_rfl
theorem pl49 : placesB Try.prog 49 = some [(0, 1), (1, 1), (2, 2), (4, 1), (5, 1), (6, 1), (7, 1), (8, 1), (9, 1), (10, 1), (11, 1), (12, 1), (13, 1), (14, 1), (15, 1), (16, 1), (17, 1), (18, 1), (19, 1), (20, 1)] := by kernel_rfl
theorem sz49 : sizeB Try.prog 49 = some 21 := by kernel_rfl
theorem na51 : isAggB Try.prog 51 = false := by kernel_rfl
theorem us51 : (Try.prog.underlying 51).isSome = true := by kernel_rfl
theorem sz51 : sizeB Try.prog 51 = some 1 := by kernel_rfl
theorem na52 : isAggB Try.prog 52 = false := by kernel_rfl
theorem us52 : (Try.prog.underlying 52).isSome = true := by kernel_rfl
theorem sz52 : sizeB Try.prog 52 = some 1 := by kernel_rfl
theorem na53 : isAggB Try.prog 53 = false := by kernel_rfl
theorem us53 : (Try.prog.underlying 53).isSome = true := by kernel_rfl
theorem sz53 : sizeB Try.prog 53 = some 1 := by kernel_rfl
theorem na54 : isAggB Try.prog 54 = false := by kernel_rfl
theorem us54 : (Try.prog.underlying 54).isSome = true := by kernel_rfl
theorem sz54 : sizeB Try.prog 54 = some 1 := by kernel_rfl
theorem ag55 : isAggB Try.prog 55 = true := by kernel_rfl
theorem fd55_0 : fieldB Try.prog 55 0 = some (0, 1) := by kernel_rfl
theorem fd55_1 : fieldB Try.prog 55 1 = some (1, 1) := by kernel_rfl
theorem fd55_2 : fieldB Try.prog 55 2 = some (2, 1) := by kernel_rfl
theorem eq55 : eqOkB Try.prog 55 3 = true := by kernel_rfl
theorem pl55 : placesB Try.prog 55 = some [(0, 1), (1, 1), (2, 1)] := by kernel_rfl
theorem sz55 : sizeB Try.prog 55 = some 3 := by kernel_rfl
theorem ag56 : isAggB Try.prog 56 = true := by kernel_rfl
theorem fd56_0 : fieldB Try.prog 56 0 = some (0, 1) := by kernel_rfl
theorem fd56_1 : fieldB Try.prog 56 1 = some (1, 1) := by kernel_rfl
theorem fd56_2 : fieldB Try.prog 56 2 = some (2, 1) := by kernel_rfl
theorem eq56 : eqOkB Try.prog 56 3 = true := by kernel_rfl
theorem pl56 : placesB Try.prog 56 = some [(0, 1), (1, 1), (2, 1)] := by kernel_rfl
theorem sz56 : sizeB Try.prog 56 = some 3 := by kernel_rfl
theorem na58 : isAggB Try.prog 58 = false := by kernel_rfl
theorem us58 : (Try.prog.underlying 58).isSome = true := by kernel_rfl
theorem sz58 : sizeB Try.prog 58 = some 1 := by kernel_rfl
theorem na59 : isAggB Try.prog 59 = false := by kernel_rfl
theorem us59 : (Try.prog.underlying 59).isSome = true := by kernel_rfl
theorem sz59 : sizeB Try.prog 59 = some 1 := by kernel_rfl
theorem na60 : isAggB Try.prog 60 = false := by kernel_rfl
theorem us60 : (Try.prog.underlying 60).isSome = true := by kernel_rfl
theorem sz60 : sizeB Try.prog 60 = some 1 := by kernel_rfl
theorem na61 : isAggB Try.prog 61 = false := by kernel_rfl
theorem us61 : (Try.prog.underlying 61).isSome = true := by kernel_rfl
theorem sz61 : sizeB Try.prog 61 = some 1 := by kernel_rfl
theorem na63 : isAggB Try.prog 63 = false := by kernel_rfl
theorem us63 : (Try.prog.underlying 63).isSome = true := by kernel_rfl
theorem sz63 : sizeB Try.prog 63 = some 1 := by kernel_rfl
theorem ag64 : isAggB Try.prog 64 = true := by kernel_rfl
theorem fd64_0 : fieldB Try.prog 64 0 = some (0, 1) := by kernel_rfl
theorem fd64_1 : fieldB Try.prog 64 1 = some (1, 1) := by kernel_rfl
theorem fd64_2 : fieldB Try.prog 64 2 = some (2, 1) := by kernel_rfl
theorem fd64_3 : fieldB Try.prog 64 3 = some (3, 1) := by kernel_rfl
theorem fd64_4 : fieldB Try.prog 64 4 = some (4, 1) := by kernel_rfl
theorem fd64_5 : fieldB Try.prog 64 5 = some (5, 1) := by kernel_rfl
theorem fd64_6 : fieldB Try.prog 64 6 = some (6, 1) := by kernel_rfl
theorem fd64_7 : fieldB Try.prog 64 7 = some (7, 1) := by kernel_rfl
theorem fd64_8 : fieldB Try.prog 64 8 = some (8, 1) := by kernel_rfl
theorem fd64_9 : fieldB Try.prog 64 9 = some (9, 1) := by kernel_rfl
theorem eq64 : eqOkB Try.prog 64 10 = true := by kernel_rfl
theorem pl64 : placesB Try.prog 64 = some [(0, 1), (1, 1), (2, 1), (3, 1), (4, 1), (5, 1), (6, 1), (7, 1), (8, 1), (9, 1)] := by kernel_rfl
theorem sz64 : sizeB Try.prog 64 = some 10 := by kernel_rfl
theorem ag65 : isAggB Try.prog 65 = true := by kernel_rfl
theorem fd65_0 : fieldB Try.prog 65 0 = some (0, 1) := by kernel_rfl
theorem fd65_1 : fieldB Try.prog 65 1 = some (1, 1) := by kernel_rfl
theorem fd65_2 : fieldB Try.prog 65 2 = some (2, 1) := by kernel_rfl
theorem fd65_3 : fieldB Try.prog 65 3 = some (3, 1) := by kernel_rfl
theorem fd65_4 : fieldB Try.prog 65 4 = some (4, 1) := by kernel_rfl
theorem fd65_5 : fieldB Try.prog 65 5 = some (5, 1) := by kernel_rfl
theorem fd65_6 : fieldB Try.prog 65 6 = some (6, 1) := by kernel_rfl
theorem fd65_7 : fieldB Try.prog 65 7 = some (7, 1) := by kernel_rfl
theorem fd65_8 : fieldB Try.prog 65 8 = some (8, 1) := by kernel_rfl
theorem fd65_9 : fieldB Try.prog 65 9 = some (9, 1) := by kernel_rfl
theorem eq65 : eqOkB Try.prog 65 10 = true := by kernel_rfl
theorem pl65 : placesB Try.prog 65 = some [(0, 1), (1, 1), (2, 1), (3, 1), (4, 1), (5, 1), (6, 1), (7, 1), (8, 1), (9, 1)] := by kernel_rfl
theorem sz65 : sizeB Try.prog 65 = some 10 := by kernel_rfl
theorem na66 : isAggB Try.prog 66 = false := by kernel_rfl
theorem us66 : (Try.prog.underlying 66).isSome = true := by kernel_rfl
theorem sz66 : sizeB Try.prog 66 = some 1 := by kernel_rfl
theorem na67 : isAggB Try.prog 67 = false := by kernel_rfl
theorem us67 : (Try.prog.underlying 67).isSome = true := by kernel_rfl
theorem sz67 : sizeB Try.prog 67 = some 1 := by kernel_rfl
theorem na68 : isAggB Try.prog 68 = false := by kernel_rfl
theorem us68 : (Try.prog.underlying 68).isSome = true := by kernel_rfl
theorem sz68 : sizeB Try.prog 68 = some 1 := by kernel_rfl
theorem na69 : isAggB Try.prog 69 = false := by kernel_rfl
theorem us69 : (Try.prog.underlying 69).isSome = true := by kernel_rfl
theorem sz69 : sizeB Try.prog 69 = some 1 := by kernel_rfl
theorem ag70 : isAggB Try.prog 70 = true := by kernel_rfl
theorem fd70_0 : fieldB Try.prog 70 0 = some (0, 1) := by kernel_rfl
theorem fd70_1 : fieldB Try.prog 70 1 = some (1, 1) := by kernel_rfl
theorem pl70 : placesB Try.prog 70 = some [(0, 1), (1, 1)] := by kernel_rfl
theorem sz70 : sizeB Try.prog 70 = some 2 := by kernel_rfl
theorem ag71 : isAggB Try.prog 71 = true := by kernel_rfl
theorem fd71_0 : fieldB Try.prog 71 0 = some (0, 1) := by kernel_rfl
theorem fd71_1 : fieldB Try.prog 71 1 = some (1, 1) := by kernel_rfl
theorem pl71 : placesB Try.prog 71 = some [(0, 1), (1, 1)] := by kernel_rfl
theorem sz71 : sizeB Try.prog 71 = some 2 := by kernel_rfl
theorem na72 : isAggB Try.prog 72 = false := by kernel_rfl
theorem us72 : (Try.prog.underlying 72).isSome = true := by kernel_rfl
theorem sz72 : sizeB Try.prog 72 = some 1 := by kernel_rfl
theorem na73 : isAggB Try.prog 73 = false := by kernel_rfl
theorem us73 : (Try.prog.underlying 73).isSome = true := by kernel_rfl
theorem sz73 : sizeB Try.prog 73 = some 1 := by kernel_rfl
theorem na74 : isAggB Try.prog 74 = false := by kernel_rfl
theorem us74 : (Try.prog.underlying 74).isSome = true := by kernel_rfl
theorem sz74 : sizeB Try.prog 74 = some 1 := by kernel_rfl
theorem na75 : isAggB Try.prog 75 = false := by kernel_rfl
theorem us75 : (Try.prog.underlying 75).isSome = true := by kernel_rfl
theorem sz75 : sizeB Try.prog 75 = some 1 := by kernel_rfl
theorem na76 : isAggB Try.prog 76 = false := by kernel_rfl
theorem us76 : (Try.prog.underlying 76).isSome = true := by kernel_rfl
theorem sz76 : sizeB Try.prog 76 = some 1 := by kernel_rfl
theorem na77 : isAggB Try.prog 77 = false := by kernel_rfl
theorem us77 : (Try.prog.underlying 77).isSome = true := by kernel_rfl
theorem sz77 : sizeB Try.prog 77 = some 1 := by kernel_rfl
theorem na78 : isAggB Try.prog 78 = false := by kernel_rfl
theorem us78 : (Try.prog.underlying 78).isSome = true := by kernel_rfl
theorem sz78 : sizeB Try.prog 78 = some 1 := by kernel_rfl
theorem na79 : isAggB Try.prog 79 = false := by kernel_rfl
theorem us79 : (Try.prog.underlying 79).isSome = true := by kernel_rfl
theorem sz79 : sizeB Try.prog 79 = some 1 := by kernel_rfl
theorem na80 : isAggB Try.prog 80 = false := by kernel_rfl
theorem us80 : (Try.prog.underlying 80).isSome = true := by kernel_rfl
theorem sz80 : sizeB Try.prog 80 = some 1 := by kernel_rfl
theorem ag81 : isAggB Try.prog 81 = true := by kernel_rfl
theorem fd81_0 : fieldB Try.prog 81 0 = some (0, 1) := by kernel_rfl
theorem fd81_1 : fieldB Try.prog 81 1 = some (1, 1) := by kernel_rfl
theorem fd81_2 : fieldB Try.prog 81 2 = some (2, 2) := by kernel_rfl
theorem fd81_3 : fieldB Try.prog 81 3 = some (4, 1) := by kernel_rfl
theorem fd81_4 : fieldB Try.prog 81 4 = some (5, 1) := by kernel_rfl
theorem fd81_5 : fieldB Try.prog 81 5 = some (6, 1) := by kernel_rfl
theorem fd81_6 : fieldB Try.prog 81 6 = some (7, 1) := by kernel_rfl
theorem fd81_7 : fieldB Try.prog 81 7 = some (8, 1) := by kernel_rfl
theorem fd81_8 : fieldB Try.prog 81 8 = some (9, 1) := by kernel_rfl
theorem fd81_9 : fieldB Try.prog 81 9 = some (10, 1) := by kernel_rfl
theorem fd81_10 : fieldB Try.prog 81 10 = some (11, 1) := by kernel_rfl
theorem fd81_11 : fieldB Try.prog 81 11 = some (12, 1) := by kernel_rfl
theorem fd81_12 : fieldB Try.prog 81 12 = some (13, 1) := by kernel_rfl
theorem fd81_13 : fieldB Try.prog 81 13 = some (14, 1) := by kernel_rfl
theorem fd81_14 : fieldB Try.prog 81 14 = some (15, 1) := by kernel_rfl
theorem fd81_15 : fieldB Try.prog 81 15 = some (16, 1) := by kernel_rfl
theorem fd81_16 : fieldB Try.prog 81 16 = some (17, 1) := by kernel_rfl
theorem fd81_17 : fieldB Try.prog 81 17 = some (18, 1) := by kernel_rfl
theorem fd81_18 : fieldB Try.prog 81 18 = some (19, 1) := by kernel_rfl
theorem fd81_19 : fieldB Try.prog 81 19 = some (20, 1) := by kernel_rfl
theorem pl81 : placesB Try.prog 81 = some [(0, 1), (1, 1), (2, 2), (4, 1), (5, 1), (6, 1), (7, 1), (8, 1), (9, 1), (10, 1), (11, 1), (12, 1), (13, 1), (14, 1), (15, 1), (16, 1), (17, 1), (18, 1), (19, 1), (20, 1)] := by kernel_rfl
theorem sz81 : sizeB Try.prog 81 = some 21 := by kernel_rfl
theorem ag82 : isAggB Try.prog 82 = true := by kernel_rfl
theorem sz82 : sizeB Try.prog 82 = some 3 := by kernel_rfl
theorem un82 : Try.prog.underlying 82 = some (.array 3 3) := by kernel_rfl
theorem na83 : isAggB Try.prog 83 = false := by kernel_rfl
theorem us83 : (Try.prog.underlying 83).isSome = true := by kernel_rfl
theorem sz83 : sizeB Try.prog 83 = some 1 := by kernel_rfl
theorem na84 : isAggB Try.prog 84 = false := by kernel_rfl
theorem us84 : (Try.prog.underlying 84).isSome = true := by kernel_rfl
theorem sz84 : sizeB Try.prog 84 = some 1 := by kernel_rfl
theorem na85 : isAggB Try.prog 85 = false := by kernel_rfl
theorem us85 : (Try.prog.underlying 85).isSome = true := by kernel_rfl
theorem sz85 : sizeB Try.prog 85 = some 1 := by kernel_rfl
theorem na86 : isAggB Try.prog 86 = false := by kernel_rfl
theorem us86 : (Try.prog.underlying 86).isSome = true := by kernel_rfl
theorem sz86 : sizeB Try.prog 86 = some 1 := by kernel_rfl
theorem na87 : isAggB Try.prog 87 = false := by kernel_rfl
theorem us87 : (Try.prog.underlying 87).isSome = true := by kernel_rfl
theorem sz87 : sizeB Try.prog 87 = some 1 := by kernel_rfl
theorem na88 : isAggB Try.prog 88 = false := by kernel_rfl
theorem us88 : (Try.prog.underlying 88).isSome = true := by kernel_rfl
theorem sz88 : sizeB Try.prog 88 = some 1 := by kernel_rfl
theorem na89 : isAggB Try.prog 89 = false := by kernel_rfl
theorem us89 : (Try.prog.underlying 89).isSome = true := by kernel_rfl
theorem sz89 : sizeB Try.prog 89 = some 1 := by kernel_rfl
theorem na90 : isAggB Try.prog 90 = false := by kernel_rfl
theorem us90 : (Try.prog.underlying 90).isSome = true := by kernel_rfl
theorem sz90 : sizeB Try.prog 90 = some 1 := by kernel_rfl
theorem na92 : isAggB Try.prog 92 = false := by kernel_rfl
theorem us92 : (Try.prog.underlying 92).isSome = true := by kernel_rfl
theorem sz92 : sizeB Try.prog 92 = some 1 := by kernel_rfl
theorem na93 : isAggB Try.prog 93 = false := by kernel_rfl
theorem us93 : (Try.prog.underlying 93).isSome = true := by kernel_rfl
theorem sz93 : sizeB Try.prog 93 = some 1 := by kernel_rfl
theorem na94 : isAggB Try.prog 94 = false := by kernel_rfl
theorem us94 : (Try.prog.underlying 94).isSome = true := by kernel_rfl
theorem sz94 : sizeB Try.prog 94 = some 1 := by kernel_rfl
theorem na95 : isAggB Try.prog 95 = false := by kernel_rfl
theorem us95 : (Try.prog.underlying 95).isSome = true := by kernel_rfl
theorem sz95 : sizeB Try.prog 95 = some 1 := by kernel_rfl
theorem na96 : isAggB Try.prog 96 = false := by kernel_rfl
theorem us96 : (Try.prog.underlying 96).isSome = true := by kernel_rfl
theorem sz96 : sizeB Try.prog 96 = some 1 := by kernel_rfl
theorem na97 : isAggB Try.prog 97 = false := by kernel_rfl
theorem us97 : (Try.prog.underlying 97).isSome = true := by kernel_rfl
theorem sz97 : sizeB Try.prog 97 = some 1 := by kernel_rfl
theorem na98 : isAggB Try.prog 98 = false := by kernel_rfl
theorem us98 : (Try.prog.underlying 98).isSome = true := by kernel_rfl
theorem sz98 : sizeB Try.prog 98 = some 1 := by kernel_rfl
theorem na99 : isAggB Try.prog 99 = false := by kernel_rfl
theorem us99 : (Try.prog.underlying 99).isSome = true := by kernel_rfl
theorem sz99 : sizeB Try.prog 99 = some 1 := by kernel_rfl
theorem un99 : Try.prog.underlying 99 = some (.slice 100) := by kernel_rfl
theorem na100 : isAggB Try.prog 100 = false := by kernel_rfl
theorem us100 : (Try.prog.underlying 100).isSome = true := by kernel_rfl
theorem sz100 : sizeB Try.prog 100 = some 1 := by kernel_rfl
theorem un100 : Try.prog.underlying 100 = some (.int .u64) := by kernel_rfl
theorem na102 : isAggB Try.prog 102 = false := by kernel_rfl
theorem us102 : (Try.prog.underlying 102).isSome = true := by kernel_rfl
theorem sz102 : sizeB Try.prog 102 = some 1 := by kernel_rfl
theorem na103 : isAggB Try.prog 103 = false := by kernel_rfl
theorem us103 : (Try.prog.underlying 103).isSome = true := by kernel_rfl
theorem sz103 : sizeB Try.prog 103 = some 1 := by kernel_rfl
theorem na104 : isAggB Try.prog 104 = false := by kernel_rfl
theorem us104 : (Try.prog.underlying 104).isSome = true := by kernel_rfl
theorem sz104 : sizeB Try.prog 104 = some 1 := by kernel_rfl
theorem na105 : isAggB Try.prog 105 = false := by kernel_rfl
theorem us105 : (Try.prog.underlying 105).isSome = true := by kernel_rfl
theorem sz105 : sizeB Try.prog 105 = some 1 := by kernel_rfl
theorem na106 : isAggB Try.prog 106 = false := by kernel_rfl
theorem us106 : (Try.prog.underlying 106).isSome = true := by kernel_rfl
theorem sz106 : sizeB Try.prog 106 = some 1 := by kernel_rfl
theorem na107 : isAggB Try.prog 107 = false := by kernel_rfl
theorem us107 : (Try.prog.underlying 107).isSome = true := by kernel_rfl
theorem sz107 : sizeB Try.prog 107 = some 1 := by kernel_rfl
theorem un107 : Try.prog.underlying 107 = some (.int .u64) := by kernel_rfl
theorem ag108 : isAggB Try.prog 108 = true := by kernel_rfl
theorem sz108 : sizeB Try.prog 108 = some 11 := by kernel_rfl
theorem un108 : Try.prog.underlying 108 = some (.array 11 3) := by kernel_rfl
theorem ag109 : isAggB Try.prog 109 = true := by kernel_rfl
theorem fd109_0 : fieldB Try.prog 109 0 = some (0, 1) := by kernel_rfl
theorem fd109_1 : fieldB Try.prog 109 1 = some (1, 1) := by kernel_rfl
theorem eq109 : eqOkB Try.prog 109 2 = true := by kernel_rfl
theorem pl109 : placesB Try.prog 109 = some [(0, 1), (1, 1)] := by kernel_rfl
theorem sz109 : sizeB Try.prog 109 = some 2 := by kernel_rfl
theorem ag110 : isAggB Try.prog 110 = true := by kernel_rfl
theorem fd110_0 : fieldB Try.prog 110 0 = some (0, 1) := by kernel_rfl
theorem fd110_1 : fieldB Try.prog 110 1 = some (1, 1) := by kernel_rfl
theorem eq110 : eqOkB Try.prog 110 2 = true := by kernel_rfl
theorem pl110 : placesB Try.prog 110 = some [(0, 1), (1, 1)] := by kernel_rfl
theorem sz110 : sizeB Try.prog 110 = some 2 := by kernel_rfl
theorem ag111 : isAggB Try.prog 111 = true := by kernel_rfl
theorem sz111 : sizeB Try.prog 111 = some 22 := by kernel_rfl
theorem un111 : Try.prog.underlying 111 = some (.array 11 110) := by kernel_rfl
theorem ag112 : isAggB Try.prog 112 = true := by kernel_rfl
theorem sz112 : sizeB Try.prog 112 = some 22 := by kernel_rfl
theorem un112 : Try.prog.underlying 112 = some (.array 11 110) := by kernel_rfl
theorem na113 : isAggB Try.prog 113 = false := by kernel_rfl
theorem us113 : (Try.prog.underlying 113).isSome = true := by kernel_rfl
theorem sz113 : sizeB Try.prog 113 = some 1 := by kernel_rfl
theorem na116 : isAggB Try.prog 116 = false := by kernel_rfl
theorem us116 : (Try.prog.underlying 116).isSome = true := by kernel_rfl
theorem sz116 : sizeB Try.prog 116 = some 1 := by kernel_rfl
theorem na117 : isAggB Try.prog 117 = false := by kernel_rfl
theorem us117 : (Try.prog.underlying 117).isSome = true := by kernel_rfl
theorem sz117 : sizeB Try.prog 117 = some 1 := by kernel_rfl
theorem na118 : isAggB Try.prog 118 = false := by kernel_rfl
theorem us118 : (Try.prog.underlying 118).isSome = true := by kernel_rfl
theorem sz118 : sizeB Try.prog 118 = some 1 := by kernel_rfl
theorem na119 : isAggB Try.prog 119 = false := by kernel_rfl
theorem us119 : (Try.prog.underlying 119).isSome = true := by kernel_rfl
theorem sz119 : sizeB Try.prog 119 = some 1 := by kernel_rfl
theorem na120 : isAggB Try.prog 120 = false := by kernel_rfl
theorem us120 : (Try.prog.underlying 120).isSome = true := by kernel_rfl
theorem sz120 : sizeB Try.prog 120 = some 1 := by kernel_rfl
theorem na121 : isAggB Try.prog 121 = false := by kernel_rfl
theorem us121 : (Try.prog.underlying 121).isSome = true := by kernel_rfl
theorem sz121 : sizeB Try.prog 121 = some 1 := by kernel_rfl
theorem un121 : Try.prog.underlying 121 = some (.int .i64) := by kernel_rfl
theorem na123 : isAggB Try.prog 123 = false := by kernel_rfl
theorem us123 : (Try.prog.underlying 123).isSome = true := by kernel_rfl
theorem sz123 : sizeB Try.prog 123 = some 1 := by kernel_rfl
theorem na124 : isAggB Try.prog 124 = false := by kernel_rfl
theorem us124 : (Try.prog.underlying 124).isSome = true := by kernel_rfl
theorem sz124 : sizeB Try.prog 124 = some 1 := by kernel_rfl
theorem na125 : isAggB Try.prog 125 = false := by kernel_rfl
theorem us125 : (Try.prog.underlying 125).isSome = true := by kernel_rfl
theorem sz125 : sizeB Try.prog 125 = some 1 := by kernel_rfl
theorem na127 : isAggB Try.prog 127 = false := by kernel_rfl
theorem us127 : (Try.prog.underlying 127).isSome = true := by kernel_rfl
theorem sz127 : sizeB Try.prog 127 = some 1 := by kernel_rfl
theorem na128 : isAggB Try.prog 128 = false := by kernel_rfl
theorem us128 : (Try.prog.underlying 128).isSome = true := by kernel_rfl
theorem sz128 : sizeB Try.prog 128 = some 1 := by kernel_rfl
theorem na129 : isAggB Try.prog 129 = false := by kernel_rfl
theorem us129 : (Try.prog.underlying 129).isSome = true := by kernel_rfl
theorem sz129 : sizeB Try.prog 129 = some 1 := by kernel_rfl
theorem un129 : Try.prog.underlying 129 = some (.int .u32) := by kernel_rfl
theorem na130 : isAggB Try.prog 130 = false := by kernel_rfl
theorem us130 : (Try.prog.underlying 130).isSome = true := by kernel_rfl
theorem sz130 : sizeB Try.prog 130 = some 1 := by kernel_rfl
theorem un130 : Try.prog.underlying 130 = some (.int .u64) := by kernel_rfl
theorem na131 : isAggB Try.prog 131 = false := by kernel_rfl
theorem us131 : (Try.prog.underlying 131).isSome = true := by kernel_rfl
theorem sz131 : sizeB Try.prog 131 = some 1 := by kernel_rfl
theorem na132 : isAggB Try.prog 132 = false := by kernel_rfl
theorem us132 : (Try.prog.underlying 132).isSome = true := by kernel_rfl
theorem sz132 : sizeB Try.prog 132 = some 1 := by kernel_rfl
theorem na133 : isAggB Try.prog 133 = false := by kernel_rfl
theorem us133 : (Try.prog.underlying 133).isSome = true := by kernel_rfl
theorem sz133 : sizeB Try.prog 133 = some 1 := by kernel_rfl
theorem na134 : isAggB Try.prog 134 = false := by kernel_rfl
theorem us134 : (Try.prog.underlying 134).isSome = true := by kernel_rfl
theorem sz134 : sizeB Try.prog 134 = some 1 := by kernel_rfl
theorem na135 : isAggB Try.prog 135 = false := by kernel_rfl
theorem us135 : (Try.prog.underlying 135).isSome = true := by kernel_rfl
theorem sz135 : sizeB Try.prog 135 = some 1 := by kernel_rfl
theorem na136 : isAggB Try.prog 136 = false := by kernel_rfl
theorem us136 : (Try.prog.underlying 136).isSome = true := by kernel_rfl
theorem sz136 : sizeB Try.prog 136 = some 1 := by kernel_rfl
theorem na138 : isAggB Try.prog 138 = false := by kernel_rfl
theorem us138 : (Try.prog.underlying 138).isSome = true := by kernel_rfl
theorem sz138 : sizeB Try.prog 138 = some 1 := by kernel_rfl
theorem na139 : isAggB Try.prog 139 = false := by kernel_rfl
theorem us139 : (Try.prog.underlying 139).isSome = true := by kernel_rfl
theorem sz139 : sizeB Try.prog 139 = some 1 := by kernel_rfl
theorem na140 : isAggB Try.prog 140 = false := by kernel_rfl
theorem us140 : (Try.prog.underlying 140).isSome = true := by kernel_rfl
theorem sz140 : sizeB Try.prog 140 = some 1 := by kernel_rfl
theorem ag141 : isAggB Try.prog 141 = true := by kernel_rfl
theorem fd141_0 : fieldB Try.prog 141 0 = some (0, 1) := by kernel_rfl
theorem fd141_1 : fieldB Try.prog 141 1 = some (1, 1) := by kernel_rfl
theorem fd141_2 : fieldB Try.prog 141 2 = some (2, 1) := by kernel_rfl
theorem fd141_3 : fieldB Try.prog 141 3 = some (3, 1) := by kernel_rfl
theorem pl141 : placesB Try.prog 141 = some [(0, 1), (1, 1), (2, 1), (3, 1)] := by kernel_rfl
theorem sz141 : sizeB Try.prog 141 = some 4 := by kernel_rfl
theorem ag142 : isAggB Try.prog 142 = true := by kernel_rfl
theorem fd142_0 : fieldB Try.prog 142 0 = some (0, 1) := by kernel_rfl
theorem fd142_1 : fieldB Try.prog 142 1 = some (1, 1) := by kernel_rfl
theorem fd142_2 : fieldB Try.prog 142 2 = some (2, 1) := by kernel_rfl
theorem fd142_3 : fieldB Try.prog 142 3 = some (3, 1) := by kernel_rfl
theorem pl142 : placesB Try.prog 142 = some [(0, 1), (1, 1), (2, 1), (3, 1)] := by kernel_rfl
theorem sz142 : sizeB Try.prog 142 = some 4 := by kernel_rfl
theorem ag144 : isAggB Try.prog 144 = true := by kernel_rfl
theorem ag145 : isAggB Try.prog 145 = true := by kernel_rfl
theorem na146 : isAggB Try.prog 146 = false := by kernel_rfl
theorem us146 : (Try.prog.underlying 146).isSome = true := by kernel_rfl
theorem sz146 : sizeB Try.prog 146 = some 1 := by kernel_rfl
theorem un146 : Try.prog.underlying 146 = some (.int .u8) := by kernel_rfl
theorem na147 : isAggB Try.prog 147 = false := by kernel_rfl
theorem us147 : (Try.prog.underlying 147).isSome = true := by kernel_rfl
theorem sz147 : sizeB Try.prog 147 = some 1 := by kernel_rfl
theorem un147 : Try.prog.underlying 147 = some (.int .u8) := by kernel_rfl
theorem na148 : isAggB Try.prog 148 = false := by kernel_rfl
theorem us148 : (Try.prog.underlying 148).isSome = true := by kernel_rfl
theorem sz148 : sizeB Try.prog 148 = some 1 := by kernel_rfl
theorem na149 : isAggB Try.prog 149 = false := by kernel_rfl
theorem us149 : (Try.prog.underlying 149).isSome = true := by kernel_rfl
theorem sz149 : sizeB Try.prog 149 = some 1 := by kernel_rfl
theorem na150 : isAggB Try.prog 150 = false := by kernel_rfl
theorem us150 : (Try.prog.underlying 150).isSome = true := by kernel_rfl
theorem sz150 : sizeB Try.prog 150 = some 1 := by kernel_rfl
theorem un150 : Try.prog.underlying 150 = some (.int .i32) := by kernel_rfl
theorem na151 : isAggB Try.prog 151 = false := by kernel_rfl
theorem us151 : (Try.prog.underlying 151).isSome = true := by kernel_rfl
theorem sz151 : sizeB Try.prog 151 = some 1 := by kernel_rfl
theorem un151 : Try.prog.underlying 151 = some (.int .i32) := by kernel_rfl
theorem ag152 : isAggB Try.prog 152 = true := by kernel_rfl
theorem fd152_0 : fieldB Try.prog 152 0 = some (0, 1) := by kernel_rfl
theorem fd152_1 : fieldB Try.prog 152 1 = some (1, 1) := by kernel_rfl
theorem fd152_2 : fieldB Try.prog 152 2 = some (2, 1) := by kernel_rfl
theorem fd152_3 : fieldB Try.prog 152 3 = some (3, 1) := by kernel_rfl
theorem fd152_4 : fieldB Try.prog 152 4 = some (4, 1) := by kernel_rfl
theorem fd152_5 : fieldB Try.prog 152 5 = some (5, 1) := by kernel_rfl
theorem fd152_6 : fieldB Try.prog 152 6 = some (6, 1) := by kernel_rfl
theorem fd152_7 : fieldB Try.prog 152 7 = some (7, 1) := by kernel_rfl
theorem fd152_8 : fieldB Try.prog 152 8 = some (8, 1) := by kernel_rfl
theorem fd152_9 : fieldB Try.prog 152 9 = some (9, 1) := by kernel_rfl
theorem fd152_10 : fieldB Try.prog 152 10 = some (10, 1) := by kernel_rfl
theorem pl152 : placesB Try.prog 152 = some [(0, 1), (1, 1), (2, 1), (3, 1), (4, 1), (5, 1), (6, 1), (7, 1), (8, 1), (9, 1), (10, 1)] := by kernel_rfl
theorem sz152 : sizeB Try.prog 152 = some 11 := by kernel_rfl
theorem ag153 : isAggB Try.prog 153 = true := by kernel_rfl
theorem fd153_0 : fieldB Try.prog 153 0 = some (0, 1) := by kernel_rfl
theorem fd153_1 : fieldB Try.prog 153 1 = some (1, 1) := by kernel_rfl
theorem fd153_2 : fieldB Try.prog 153 2 = some (2, 1) := by kernel_rfl
theorem fd153_3 : fieldB Try.prog 153 3 = some (3, 1) := by kernel_rfl
theorem fd153_4 : fieldB Try.prog 153 4 = some (4, 1) := by kernel_rfl
theorem fd153_5 : fieldB Try.prog 153 5 = some (5, 1) := by kernel_rfl
theorem fd153_6 : fieldB Try.prog 153 6 = some (6, 1) := by kernel_rfl
theorem fd153_7 : fieldB Try.prog 153 7 = some (7, 1) := by kernel_rfl
theorem fd153_8 : fieldB Try.prog 153 8 = some (8, 1) := by kernel_rfl
theorem fd153_9 : fieldB Try.prog 153 9 = some (9, 1) := by kernel_rfl
theorem fd153_10 : fieldB Try.prog 153 10 = some (10, 1) := by kernel_rfl
theorem pl153 : placesB Try.prog 153 = some [(0, 1), (1, 1), (2, 1), (3, 1), (4, 1), (5, 1), (6, 1), (7, 1), (8, 1), (9, 1), (10, 1)] := by kernel_rfl
theorem sz153 : sizeB Try.prog 153 = some 11 := by kernel_rfl
theorem ag154 : isAggB Try.prog 154 = true := by kernel_rfl
theorem fd154_0 : fieldB Try.prog 154 0 = some (0, 1) := by kernel_rfl
theorem pl154 : placesB Try.prog 154 = some [(0, 1)] := by kernel_rfl
theorem sz154 : sizeB Try.prog 154 = some 1 := by kernel_rfl
theorem ag155 : isAggB Try.prog 155 = true := by kernel_rfl
theorem fd155_0 : fieldB Try.prog 155 0 = some (0, 1) := by kernel_rfl
theorem pl155 : placesB Try.prog 155 = some [(0, 1)] := by kernel_rfl
theorem sz155 : sizeB Try.prog 155 = some 1 := by kernel_rfl
theorem in2 : (Try.prog.info? 2).map (fun i => (i.zero, i.size, i.bytes)) = some (some (.int .i64 0), 1, 8) := by kernel_rfl
theorem zr2 : zeroB Try.prog 2 = some (.int .i64 0) := by kernel_rfl
theorem in3 : (Try.prog.info? 3).map (fun i => (i.zero, i.size, i.bytes)) = some (some (.int .i64 0), 1, 8) := by kernel_rfl
theorem zr3 : zeroB Try.prog 3 = some (.int .i64 0) := by kernel_rfl
theorem in4 : (Try.prog.info? 4).map (fun i => (i.zero, i.size, i.bytes)) = some (some (.bool false), 1, 1) := by kernel_rfl
theorem zr4 : zeroB Try.prog 4 = some (.bool false) := by kernel_rfl
theorem un4 : Try.prog.underlying 4 = some .bool := by kernel_rfl
theorem in5 : (Try.prog.info? 5).map (fun i => (i.zero, i.size, i.bytes)) = some (some (.int .u8 0), 1, 1) := by kernel_rfl
theorem zr5 : zeroB Try.prog 5 = some (.int .u8 0) := by kernel_rfl
theorem in6 : (Try.prog.info? 6).map (fun i => (i.zero, i.size, i.bytes)) = some (some (.int .u8 0), 1, 1) := by kernel_rfl
theorem zr6 : zeroB Try.prog 6 = some (.int .u8 0) := by kernel_rfl
theorem in7 : (Try.prog.info? 7).map (fun i => (i.zero, i.size, i.bytes)) = some (some (.agg #[.int .i64 0, .int .i64 0, .bool false, .int .u8 0]), 4, 24) := by kernel_rfl
theorem zr7 : zeroB Try.prog 7 = some (.agg #[.int .i64 0, .int .i64 0, .bool false, .int .u8 0]) := by kernel_rfl
theorem in8 : (Try.prog.info? 8).map (fun i => (i.zero, i.size, i.bytes)) = some (some (.agg #[.int .i64 0, .int .i64 0, .bool false, .int .u8 0]), 4, 24) := by kernel_rfl
theorem zr8 : zeroB Try.prog 8 = some (.agg #[.int .i64 0, .int .i64 0, .bool false, .int .u8 0]) := by kernel_rfl
theorem in12 : (Try.prog.info? 12).map (fun i => (i.zero, i.size, i.bytes)) = some (some (.int .u64 0), 1, 8) := by kernel_rfl
theorem zr12 : zeroB Try.prog 12 = some (.int .u64 0) := by kernel_rfl
theorem in15 : (Try.prog.info? 15).map (fun i => (i.zero, i.size, i.bytes)) = some (some (.pointer none), 1, 8) := by kernel_rfl
theorem zr15 : zeroB Try.prog 15 = some (.pointer none) := by kernel_rfl
theorem in16 : (Try.prog.info? 16).map (fun i => (i.zero, i.size, i.bytes)) = some (some (.pointer none), 1, 8) := by kernel_rfl
theorem zr16 : zeroB Try.prog 16 = some (.pointer none) := by kernel_rfl
theorem in17 : (Try.prog.info? 17).map (fun i => (i.zero, i.size, i.bytes)) = some (some (.pointer none), 1, 8) := by kernel_rfl
theorem zr17 : zeroB Try.prog 17 = some (.pointer none) := by kernel_rfl
theorem in18 : (Try.prog.info? 18).map (fun i => (i.zero, i.size, i.bytes)) = some (some (.agg #[.pointer none]), 1, 8) := by kernel_rfl
theorem zr18 : zeroB Try.prog 18 = some (.agg #[.pointer none]) := by kernel_rfl
theorem in19 : (Try.prog.info? 19).map (fun i => (i.zero, i.size, i.bytes)) = some (some (.agg #[.pointer none]), 1, 8) := by kernel_rfl
theorem zr19 : zeroB Try.prog 19 = some (.agg #[.pointer none]) := by kernel_rfl
theorem in21 : (Try.prog.info? 21).map (fun i => (i.zero, i.size, i.bytes)) = some (some (.int .i32 0), 1, 4) := by kernel_rfl
theorem zr21 : zeroB Try.prog 21 = some (.int .i32 0) := by kernel_rfl
theorem in22 : (Try.prog.info? 22).map (fun i => (i.zero, i.size, i.bytes)) = some (some (.slice none 0 0), 1, 24) := by kernel_rfl
theorem zr22 : zeroB Try.prog 22 = some (.slice none 0 0) := by kernel_rfl
theorem in23 : (Try.prog.info? 23).map (fun i => (i.zero, i.size, i.bytes)) = some (some (.slice none 0 0), 1, 24) := by kernel_rfl
theorem zr23 : zeroB Try.prog 23 = some (.slice none 0 0) := by kernel_rfl
theorem in24 : (Try.prog.info? 24).map (fun i => (i.zero, i.size, i.bytes)) = some (some (.agg #[.int .i64 0, .int .i64 0]), 2, 16) := by kernel_rfl
theorem zr24 : zeroB Try.prog 24 = some (.agg #[.int .i64 0, .int .i64 0]) := by kernel_rfl
theorem in25 : (Try.prog.info? 25).map (fun i => (i.zero, i.size, i.bytes)) = some (some (.agg #[.int .i64 0, .int .i64 0]), 2, 16) := by kernel_rfl
theorem zr25 : zeroB Try.prog 25 = some (.agg #[.int .i64 0, .int .i64 0]) := by kernel_rfl
theorem in27 : (Try.prog.info? 27).map (fun i => (i.zero, i.size, i.bytes)) = some (some (.pointer none), 1, 8) := by kernel_rfl
theorem zr27 : zeroB Try.prog 27 = some (.pointer none) := by kernel_rfl
theorem in31 : (Try.prog.info? 31).map (fun i => (i.zero, i.size, i.bytes)) = some (some (.int .i64 0), 1, 8) := by kernel_rfl
theorem zr31 : zeroB Try.prog 31 = some (.int .i64 0) := by kernel_rfl
theorem in46 : (Try.prog.info? 46).map (fun i => (i.zero, i.size, i.bytes)) = some (some (.agg #[.int .i64 0, .int .i64 0]), 2, 16) := by kernel_rfl
theorem zr46 : zeroB Try.prog 46 = some (.agg #[.int .i64 0, .int .i64 0]) := by kernel_rfl
theorem in47 : (Try.prog.info? 47).map (fun i => (i.zero, i.size, i.bytes)) = some (some (.agg #[.int .i64 0, .int .i64 0]), 2, 16) := by kernel_rfl
theorem zr47 : zeroB Try.prog 47 = some (.agg #[.int .i64 0, .int .i64 0]) := by kernel_rfl
theorem in48 : (Try.prog.info? 48).map (fun i => (i.zero, i.size, i.bytes)) = some (some (.agg #[.int .i64 0, .int .i64 0, .int .i64 0, .int .i64 0, .slice none 0 0, .slice none 0 0, .int .i64 0, .int .i64 0, .int .i64 0, .int .i64 0, .int .i64 0, .int .i64 0, .int .i64 0, .int .i64 0, .int .i64 0, .int .i64 0, .slice none 0 0, .bool false, .int .i64 0, .slice none 0 0, .slice none 0 0]), 21, 248) := by kernel_rfl
theorem zr48 : zeroB Try.prog 48 = some (.agg #[.int .i64 0, .int .i64 0, .int .i64 0, .int .i64 0, .slice none 0 0, .slice none 0 0, .int .i64 0, .int .i64 0, .int .i64 0, .int .i64 0, .int .i64 0, .int .i64 0, .int .i64 0, .int .i64 0, .int .i64 0, .int .i64 0, .slice none 0 0, .bool false, .int .i64 0, .slice none 0 0, .slice none 0 0]) := by kernel_rfl
theorem in49 : (Try.prog.info? 49).map (fun i => (i.zero, i.size, i.bytes)) = some (some (.agg #[.int .i64 0, .int .i64 0, .int .i64 0, .int .i64 0, .slice none 0 0, .slice none 0 0, .int .i64 0, .int .i64 0, .int .i64 0, .int .i64 0, .int .i64 0, .int .i64 0, .int .i64 0, .int .i64 0, .int .i64 0, .int .i64 0, .slice none 0 0, .bool false, .int .i64 0, .slice none 0 0, .slice none 0 0]), 21, 248) := by kernel_rfl
theorem zr49 : zeroB Try.prog 49 = some (.agg #[.int .i64 0, .int .i64 0, .int .i64 0, .int .i64 0, .slice none 0 0, .slice none 0 0, .int .i64 0, .int .i64 0, .int .i64 0, .int .i64 0, .int .i64 0, .int .i64 0, .int .i64 0, .int .i64 0, .int .i64 0, .int .i64 0, .slice none 0 0, .bool false, .int .i64 0, .slice none 0 0, .slice none 0 0]) := by kernel_rfl
theorem in55 : (Try.prog.info? 55).map (fun i => (i.zero, i.size, i.bytes)) = some (some (.agg #[.int .i64 0, .int .i64 0, .int .i64 0]), 3, 24) := by kernel_rfl
theorem zr55 : zeroB Try.prog 55 = some (.agg #[.int .i64 0, .int .i64 0, .int .i64 0]) := by kernel_rfl
theorem in56 : (Try.prog.info? 56).map (fun i => (i.zero, i.size, i.bytes)) = some (some (.agg #[.int .i64 0, .int .i64 0, .int .i64 0]), 3, 24) := by kernel_rfl
theorem zr56 : zeroB Try.prog 56 = some (.agg #[.int .i64 0, .int .i64 0, .int .i64 0]) := by kernel_rfl
theorem in64 : (Try.prog.info? 64).map (fun i => (i.zero, i.size, i.bytes)) = some (some (.agg #[.int .i64 0, .int .i64 0, .int .i64 0, .int .i64 0, .int .i64 0, .int .i64 0, .int .i64 0, .int .i64 0, .int .i64 0, .int .i64 0]), 10, 80) := by kernel_rfl
theorem zr64 : zeroB Try.prog 64 = some (.agg #[.int .i64 0, .int .i64 0, .int .i64 0, .int .i64 0, .int .i64 0, .int .i64 0, .int .i64 0, .int .i64 0, .int .i64 0, .int .i64 0]) := by kernel_rfl
theorem in65 : (Try.prog.info? 65).map (fun i => (i.zero, i.size, i.bytes)) = some (some (.agg #[.int .i64 0, .int .i64 0, .int .i64 0, .int .i64 0, .int .i64 0, .int .i64 0, .int .i64 0, .int .i64 0, .int .i64 0, .int .i64 0]), 10, 80) := by kernel_rfl
theorem zr65 : zeroB Try.prog 65 = some (.agg #[.int .i64 0, .int .i64 0, .int .i64 0, .int .i64 0, .int .i64 0, .int .i64 0, .int .i64 0, .int .i64 0, .int .i64 0, .int .i64 0]) := by kernel_rfl
theorem in70 : (Try.prog.info? 70).map (fun i => (i.zero, i.size, i.bytes)) = some (some (.agg #[.slice none 0 0, .int .i64 0]), 2, 32) := by kernel_rfl
theorem zr70 : zeroB Try.prog 70 = some (.agg #[.slice none 0 0, .int .i64 0]) := by kernel_rfl
theorem in71 : (Try.prog.info? 71).map (fun i => (i.zero, i.size, i.bytes)) = some (some (.agg #[.slice none 0 0, .int .i64 0]), 2, 32) := by kernel_rfl
theorem zr71 : zeroB Try.prog 71 = some (.agg #[.slice none 0 0, .int .i64 0]) := by kernel_rfl
theorem in81 : (Try.prog.info? 81).map (fun i => (i.zero, i.size, i.bytes)) = some (some (.agg #[.int .i64 0, .int .i64 0, .int .i64 0, .int .i64 0, .slice none 0 0, .slice none 0 0, .int .i64 0, .int .i64 0, .int .i64 0, .int .i64 0, .int .i64 0, .int .i64 0, .int .i64 0, .int .i64 0, .int .i64 0, .int .i64 0, .slice none 0 0, .bool false, .int .i64 0, .slice none 0 0, .slice none 0 0]), 21, 248) := by kernel_rfl
theorem zr81 : zeroB Try.prog 81 = some (.agg #[.int .i64 0, .int .i64 0, .int .i64 0, .int .i64 0, .slice none 0 0, .slice none 0 0, .int .i64 0, .int .i64 0, .int .i64 0, .int .i64 0, .int .i64 0, .int .i64 0, .int .i64 0, .int .i64 0, .int .i64 0, .int .i64 0, .slice none 0 0, .bool false, .int .i64 0, .slice none 0 0, .slice none 0 0]) := by kernel_rfl
theorem in82 : (Try.prog.info? 82).map (fun i => (i.zero, i.size, i.bytes)) = some (some (.agg #[.int .i64 0, .int .i64 0, .int .i64 0]), 3, 24) := by kernel_rfl
theorem zr82 : zeroB Try.prog 82 = some (.agg #[.int .i64 0, .int .i64 0, .int .i64 0]) := by kernel_rfl
theorem in99 : (Try.prog.info? 99).map (fun i => (i.zero, i.size, i.bytes)) = some (some (.slice none 0 0), 1, 24) := by kernel_rfl
theorem zr99 : zeroB Try.prog 99 = some (.slice none 0 0) := by kernel_rfl
theorem in100 : (Try.prog.info? 100).map (fun i => (i.zero, i.size, i.bytes)) = some (some (.int .u64 0), 1, 8) := by kernel_rfl
theorem zr100 : zeroB Try.prog 100 = some (.int .u64 0) := by kernel_rfl
theorem in107 : (Try.prog.info? 107).map (fun i => (i.zero, i.size, i.bytes)) = some (some (.int .u64 0), 1, 8) := by kernel_rfl
theorem zr107 : zeroB Try.prog 107 = some (.int .u64 0) := by kernel_rfl
theorem in108 : (Try.prog.info? 108).map (fun i => (i.zero, i.size, i.bytes)) = some (some (.agg #[.int .i64 0, .int .i64 0, .int .i64 0, .int .i64 0, .int .i64 0, .int .i64 0, .int .i64 0, .int .i64 0, .int .i64 0, .int .i64 0, .int .i64 0]), 11, 88) := by kernel_rfl
theorem zr108 : zeroB Try.prog 108 = some (.agg #[.int .i64 0, .int .i64 0, .int .i64 0, .int .i64 0, .int .i64 0, .int .i64 0, .int .i64 0, .int .i64 0, .int .i64 0, .int .i64 0, .int .i64 0]) := by kernel_rfl
theorem in109 : (Try.prog.info? 109).map (fun i => (i.zero, i.size, i.bytes)) = some (some (.agg #[.int .i64 0, .int .i64 0]), 2, 16) := by kernel_rfl
theorem zr109 : zeroB Try.prog 109 = some (.agg #[.int .i64 0, .int .i64 0]) := by kernel_rfl
theorem in110 : (Try.prog.info? 110).map (fun i => (i.zero, i.size, i.bytes)) = some (some (.agg #[.int .i64 0, .int .i64 0]), 2, 16) := by kernel_rfl
theorem zr110 : zeroB Try.prog 110 = some (.agg #[.int .i64 0, .int .i64 0]) := by kernel_rfl
theorem in111 : (Try.prog.info? 111).map (fun i => (i.zero, i.size, i.bytes)) = some (some (.agg #[.int .i64 0, .int .i64 0, .int .i64 0, .int .i64 0, .int .i64 0, .int .i64 0, .int .i64 0, .int .i64 0, .int .i64 0, .int .i64 0, .int .i64 0, .int .i64 0, .int .i64 0, .int .i64 0, .int .i64 0, .int .i64 0, .int .i64 0, .int .i64 0, .int .i64 0, .int .i64 0, .int .i64 0, .int .i64 0]), 22, 176) := by kernel_rfl
theorem zr111 : zeroB Try.prog 111 = some (.agg #[.int .i64 0, .int .i64 0, .int .i64 0, .int .i64 0, .int .i64 0, .int .i64 0, .int .i64 0, .int .i64 0, .int .i64 0, .int .i64 0, .int .i64 0, .int .i64 0, .int .i64 0, .int .i64 0, .int .i64 0, .int .i64 0, .int .i64 0, .int .i64 0, .int .i64 0, .int .i64 0, .int .i64 0, .int .i64 0]) := by kernel_rfl
theorem in112 : (Try.prog.info? 112).map (fun i => (i.zero, i.size, i.bytes)) = some (some (.agg #[.int .i64 0, .int .i64 0, .int .i64 0, .int .i64 0, .int .i64 0, .int .i64 0, .int .i64 0, .int .i64 0, .int .i64 0, .int .i64 0, .int .i64 0, .int .i64 0, .int .i64 0, .int .i64 0, .int .i64 0, .int .i64 0, .int .i64 0, .int .i64 0, .int .i64 0, .int .i64 0, .int .i64 0, .int .i64 0]), 22, 176) := by kernel_rfl
theorem zr112 : zeroB Try.prog 112 = some (.agg #[.int .i64 0, .int .i64 0, .int .i64 0, .int .i64 0, .int .i64 0, .int .i64 0, .int .i64 0, .int .i64 0, .int .i64 0, .int .i64 0, .int .i64 0, .int .i64 0, .int .i64 0, .int .i64 0, .int .i64 0, .int .i64 0, .int .i64 0, .int .i64 0, .int .i64 0, .int .i64 0, .int .i64 0, .int .i64 0]) := by kernel_rfl
theorem in121 : (Try.prog.info? 121).map (fun i => (i.zero, i.size, i.bytes)) = some (some (.int .i64 0), 1, 8) := by kernel_rfl
theorem zr121 : zeroB Try.prog 121 = some (.int .i64 0) := by kernel_rfl
theorem in129 : (Try.prog.info? 129).map (fun i => (i.zero, i.size, i.bytes)) = some (some (.int .u32 0), 1, 4) := by kernel_rfl
theorem zr129 : zeroB Try.prog 129 = some (.int .u32 0) := by kernel_rfl
theorem in130 : (Try.prog.info? 130).map (fun i => (i.zero, i.size, i.bytes)) = some (some (.int .u64 0), 1, 8) := by kernel_rfl
theorem zr130 : zeroB Try.prog 130 = some (.int .u64 0) := by kernel_rfl
theorem in134 : (Try.prog.info? 134).map (fun i => (i.zero, i.size, i.bytes)) = some (some (.pointer none), 1, 8) := by kernel_rfl
theorem zr134 : zeroB Try.prog 134 = some (.pointer none) := by kernel_rfl
theorem in136 : (Try.prog.info? 136).map (fun i => (i.zero, i.size, i.bytes)) = some (some (.pointer none), 1, 8) := by kernel_rfl
theorem zr136 : zeroB Try.prog 136 = some (.pointer none) := by kernel_rfl
theorem in139 : (Try.prog.info? 139).map (fun i => (i.zero, i.size, i.bytes)) = some (some (.pointer none), 1, 8) := by kernel_rfl
theorem zr139 : zeroB Try.prog 139 = some (.pointer none) := by kernel_rfl
theorem in146 : (Try.prog.info? 146).map (fun i => (i.zero, i.size, i.bytes)) = some (some (.int .u8 0), 1, 1) := by kernel_rfl
theorem zr146 : zeroB Try.prog 146 = some (.int .u8 0) := by kernel_rfl
theorem in147 : (Try.prog.info? 147).map (fun i => (i.zero, i.size, i.bytes)) = some (some (.int .u8 0), 1, 1) := by kernel_rfl
theorem zr147 : zeroB Try.prog 147 = some (.int .u8 0) := by kernel_rfl
theorem in149 : (Try.prog.info? 149).map (fun i => (i.zero, i.size, i.bytes)) = some (some (.pointer none), 1, 8) := by kernel_rfl
theorem zr149 : zeroB Try.prog 149 = some (.pointer none) := by kernel_rfl
theorem in150 : (Try.prog.info? 150).map (fun i => (i.zero, i.size, i.bytes)) = some (some (.int .i32 0), 1, 4) := by kernel_rfl
theorem zr150 : zeroB Try.prog 150 = some (.int .i32 0) := by kernel_rfl
theorem in151 : (Try.prog.info? 151).map (fun i => (i.zero, i.size, i.bytes)) = some (some (.int .i32 0), 1, 4) := by kernel_rfl
theorem zr151 : zeroB Try.prog 151 = some (.int .i32 0) := by kernel_rfl
theorem mixed : Try.prog.follows .mixedOrders = true := by kernel_rfl
end Go.Proofs.Ytlmhmpngjfjfhaa
