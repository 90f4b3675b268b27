/- Closed facts on the types of this translation, each reckoned by the kernel. Written by a small program. -/
import Derived.Test.YteohebcimnjlbaaKDet
import Derived.Test.YteohebcimnjlbaaRows
import Derived.KernelRfl
namespace Go.Proofs.Yteohebcimnjlbaa
theorem na1 : isAggB Try.prog 1 = false := by kernel_rfl
theorem us1 : (Try.prog.underlying 1).isSome = true := by kernel_rfl
theorem sz1 : sizeB Try.prog 1 = some 1 := by kernel_rfl
theorem na2 : isAggB Try.prog 2 = false := by kernel_rfl
theorem us2 : (Try.prog.underlying 2).isSome = true := by kernel_rfl
theorem sz2 : sizeB Try.prog 2 = some 1 := by kernel_rfl
theorem un2 : Try.prog.underlying 2 = some (.int .i64) := by kernel_rfl
theorem na3 : isAggB Try.prog 3 = false := by kernel_rfl
theorem us3 : (Try.prog.underlying 3).isSome = true := by kernel_rfl
theorem sz3 : sizeB Try.prog 3 = some 1 := by kernel_rfl
theorem un3 : Try.prog.underlying 3 = some (.int .i64) := by kernel_rfl
theorem na4 : isAggB Try.prog 4 = false := by kernel_rfl
theorem us4 : (Try.prog.underlying 4).isSome = true := by kernel_rfl
theorem sz4 : sizeB Try.prog 4 = some 1 := by kernel_rfl
theorem na5 : isAggB Try.prog 5 = false := by kernel_rfl
theorem us5 : (Try.prog.underlying 5).isSome = true := by kernel_rfl
theorem sz5 : sizeB Try.prog 5 = some 1 := by kernel_rfl
theorem un5 : Try.prog.underlying 5 = some (.int .u8) := by kernel_rfl
theorem na6 : isAggB Try.prog 6 = false := by kernel_rfl
theorem us6 : (Try.prog.underlying 6).isSome = true := by kernel_rfl
theorem sz6 : sizeB Try.prog 6 = some 1 := by kernel_rfl
theorem un6 : Try.prog.underlying 6 = some (.int .u8) := by kernel_rfl
theorem ag7 : isAggB Try.prog 7 = true := by kernel_rfl
theorem fd7_0 : fieldB Try.prog 7 0 = some (0, 1) := by kernel_rfl
theorem fd7_1 : fieldB Try.prog 7 1 = some (1, 1) := by kernel_rfl
theorem fd7_2 : fieldB Try.prog 7 2 = some (2, 1) := by kernel_rfl
theorem fd7_3 : fieldB Try.prog 7 3 = some (3, 1) := by kernel_rfl
theorem pl7 : placesB Try.prog 7 = some [(0, 1), (1, 1), (2, 1), (3, 1)] := by kernel_rfl
theorem sz7 : sizeB Try.prog 7 = some 4 := by kernel_rfl
theorem ag8 : isAggB Try.prog 8 = true := by kernel_rfl
theorem fd8_0 : fieldB Try.prog 8 0 = some (0, 1) := by kernel_rfl
theorem fd8_1 : fieldB Try.prog 8 1 = some (1, 1) := by kernel_rfl
theorem fd8_2 : fieldB Try.prog 8 2 = some (2, 1) := by kernel_rfl
theorem fd8_3 : fieldB Try.prog 8 3 = some (3, 1) := by kernel_rfl
theorem pl8 : placesB Try.prog 8 = some [(0, 1), (1, 1), (2, 1), (3, 1)] := by kernel_rfl
theorem sz8 : sizeB Try.prog 8 = some 4 := by kernel_rfl
theorem na9 : isAggB Try.prog 9 = false := by kernel_rfl
theorem us9 : (Try.prog.underlying 9).isSome = true := by kernel_rfl
theorem sz9 : sizeB Try.prog 9 = some 1 := by kernel_rfl
theorem na10 : isAggB Try.prog 10 = false := by kernel_rfl
theorem us10 : (Try.prog.underlying 10).isSome = true := by kernel_rfl
theorem sz10 : sizeB Try.prog 10 = some 1 := by kernel_rfl
theorem na11 : isAggB Try.prog 11 = false := by kernel_rfl
theorem us11 : (Try.prog.underlying 11).isSome = true := by kernel_rfl
theorem sz11 : sizeB Try.prog 11 = some 1 := by kernel_rfl
theorem na12 : isAggB Try.prog 12 = false := by kernel_rfl
theorem us12 : (Try.prog.underlying 12).isSome = true := by kernel_rfl
theorem sz12 : sizeB Try.prog 12 = some 1 := by kernel_rfl
theorem un12 : Try.prog.underlying 12 = some (.int .u64) := by kernel_rfl
theorem ag13 : isAggB Try.prog 13 = true := by kernel_rfl
theorem fd13_0 : fieldB Try.prog 13 0 = some (0, 1) := by kernel_rfl
theorem fd13_1 : fieldB Try.prog 13 1 = some (1, 1) := by kernel_rfl
theorem pl13 : placesB Try.prog 13 = some [(0, 1), (1, 1)] := by kernel_rfl
theorem sz13 : sizeB Try.prog 13 = some 2 := by kernel_rfl
theorem ag14 : isAggB Try.prog 14 = true := by kernel_rfl
theorem fd14_0 : fieldB Try.prog 14 0 = some (0, 1) := by kernel_rfl
theorem fd14_1 : fieldB Try.prog 14 1 = some (1, 1) := by kernel_rfl
theorem pl14 : placesB Try.prog 14 = some [(0, 1), (1, 1)] := by kernel_rfl
theorem sz14 : sizeB Try.prog 14 = some 2 := by kernel_rfl
theorem na15 : isAggB Try.prog 15 = false := by kernel_rfl
theorem us15 : (Try.prog.underlying 15).isSome = true := by kernel_rfl
theorem sz15 : sizeB Try.prog 15 = some 1 := by kernel_rfl
theorem na16 : isAggB Try.prog 16 = false := by kernel_rfl
theorem us16 : (Try.prog.underlying 16).isSome = true := by kernel_rfl
theorem sz16 : sizeB Try.prog 16 = some 1 := by kernel_rfl
theorem na17 : isAggB Try.prog 17 = false := by kernel_rfl
theorem us17 : (Try.prog.underlying 17).isSome = true := by kernel_rfl
theorem sz17 : sizeB Try.prog 17 = some 1 := by kernel_rfl
theorem ag18 : isAggB Try.prog 18 = true := by kernel_rfl
theorem fd18_0 : fieldB Try.prog 18 0 = some (0, 1) := by kernel_rfl
theorem pl18 : placesB Try.prog 18 = some [(0, 1)] := by kernel_rfl
theorem sz18 : sizeB Try.prog 18 = some 1 := by kernel_rfl
theorem ag19 : isAggB Try.prog 19 = true := by kernel_rfl
theorem fd19_0 : fieldB Try.prog 19 0 = some (0, 1) := by kernel_rfl
theorem pl19 : placesB Try.prog 19 = some [(0, 1)] := by kernel_rfl
theorem sz19 : sizeB Try.prog 19 = some 1 := by kernel_rfl
theorem na21 : isAggB Try.prog 21 = false := by kernel_rfl
theorem us21 : (Try.prog.underlying 21).isSome = true := by kernel_rfl
theorem sz21 : sizeB Try.prog 21 = some 1 := by kernel_rfl
theorem un21 : Try.prog.underlying 21 = some (.int .i32) := by kernel_rfl
theorem na22 : isAggB Try.prog 22 = false := by kernel_rfl
theorem us22 : (Try.prog.underlying 22).isSome = true := by kernel_rfl
theorem sz22 : sizeB Try.prog 22 = some 1 := by kernel_rfl
theorem un22 : Try.prog.underlying 22 = some (.slice 3) := by kernel_rfl
theorem na23 : isAggB Try.prog 23 = false := by kernel_rfl
theorem us23 : (Try.prog.underlying 23).isSome = true := by kernel_rfl
theorem sz23 : sizeB Try.prog 23 = some 1 := by kernel_rfl
theorem na24 : isAggB Try.prog 24 = false := by kernel_rfl
theorem us24 : (Try.prog.underlying 24).isSome = true := by kernel_rfl
theorem sz24 : sizeB Try.prog 24 = some 1 := by kernel_rfl
theorem un24 : Try.prog.underlying 24 = some (.int .i64) := by kernel_rfl
theorem na26 : isAggB Try.prog 26 = false := by kernel_rfl
theorem us26 : (Try.prog.underlying 26).isSome = true := by kernel_rfl
theorem sz26 : sizeB Try.prog 26 = some 1 := by kernel_rfl
theorem na27 : isAggB Try.prog 27 = false := by kernel_rfl
theorem us27 : (Try.prog.underlying 27).isSome = true := by kernel_rfl
theorem sz27 : sizeB Try.prog 27 = some 1 := by kernel_rfl
theorem na28 : isAggB Try.prog 28 = false := by kernel_rfl
theorem us28 : (Try.prog.underlying 28).isSome = true := by kernel_rfl
theorem sz28 : sizeB Try.prog 28 = some 1 := by kernel_rfl
theorem na29 : isAggB Try.prog 29 = false := by kernel_rfl
theorem us29 : (Try.prog.underlying 29).isSome = true := by kernel_rfl
theorem sz29 : sizeB Try.prog 29 = some 1 := by kernel_rfl
theorem na30 : isAggB Try.prog 30 = false := by kernel_rfl
theorem us30 : (Try.prog.underlying 30).isSome = true := by kernel_rfl
theorem sz30 : sizeB Try.prog 30 = some 1 := by kernel_rfl
theorem na31 : isAggB Try.prog 31 = false := by kernel_rfl
theorem us31 : (Try.prog.underlying 31).isSome = true := by kernel_rfl
theorem sz31 : sizeB Try.prog 31 = some 1 := by kernel_rfl
theorem na32 : isAggB Try.prog 32 = false := by kernel_rfl
theorem us32 : (Try.prog.underlying 32).isSome = true := by kernel_rfl
theorem sz32 : sizeB Try.prog 32 = some 1 := by kernel_rfl
theorem na33 : isAggB Try.prog 33 = false := by kernel_rfl
theorem us33 : (Try.prog.underlying 33).isSome = true := by kernel_rfl
theorem sz33 : sizeB Try.prog 33 = some 1 := by kernel_rfl
theorem na34 : isAggB Try.prog 34 = false := by kernel_rfl
theorem us34 : (Try.prog.underlying 34).isSome = true := by kernel_rfl
theorem sz34 : sizeB Try.prog 34 = some 1 := by kernel_rfl
theorem un34 : Try.prog.underlying 34 = some (.slice 35) := by kernel_rfl
theorem na35 : isAggB Try.prog 35 = false := by kernel_rfl
theorem us35 : (Try.prog.underlying 35).isSome = true := by kernel_rfl
theorem sz35 : sizeB Try.prog 35 = some 1 := by kernel_rfl
theorem un35 : Try.prog.underlying 35 = some (.int .u16) := by kernel_rfl
theorem na36 : isAggB Try.prog 36 = false := by kernel_rfl
theorem us36 : (Try.prog.underlying 36).isSome = true := by kernel_rfl
theorem sz36 : sizeB Try.prog 36 = some 1 := by kernel_rfl
theorem na37 : isAggB Try.prog 37 = false := by kernel_rfl
theorem us37 : (Try.prog.underlying 37).isSome = true := by kernel_rfl
theorem sz37 : sizeB Try.prog 37 = some 1 := by kernel_rfl
theorem na38 : isAggB Try.prog 38 = false := by kernel_rfl
theorem us38 : (Try.prog.underlying 38).isSome = true := by kernel_rfl
theorem sz38 : sizeB Try.prog 38 = some 1 := by kernel_rfl
theorem na39 : isAggB Try.prog 39 = false := by kernel_rfl
theorem us39 : (Try.prog.underlying 39).isSome = true := by kernel_rfl
theorem sz39 : sizeB Try.prog 39 = some 1 := by kernel_rfl
theorem na40 : isAggB Try.prog 40 = false := by kernel_rfl
theorem us40 : (Try.prog.underlying 40).isSome = true := by kernel_rfl
theorem sz40 : sizeB Try.prog 40 = some 1 := by kernel_rfl
theorem na41 : isAggB Try.prog 41 = false := by kernel_rfl
theorem us41 : (Try.prog.underlying 41).isSome = true := by kernel_rfl
theorem sz41 : sizeB Try.prog 41 = some 1 := by kernel_rfl
theorem na42 : isAggB Try.prog 42 = false := by kernel_rfl
theorem us42 : (Try.prog.underlying 42).isSome = true := by kernel_rfl
theorem sz42 : sizeB Try.prog 42 = some 1 := by kernel_rfl
theorem na43 : isAggB Try.prog 43 = false := by kernel_rfl
theorem us43 : (Try.prog.underlying 43).isSome = true := by kernel_rfl
theorem sz43 : sizeB Try.prog 43 = some 1 := by kernel_rfl
theorem na44 : isAggB Try.prog 44 = false := by kernel_rfl
theorem us44 : (Try.prog.underlying 44).isSome = true := by kernel_rfl
theorem sz44 : sizeB Try.prog 44 = some 1 := by kernel_rfl
theorem na45 : isAggB Try.prog 45 = false := by kernel_rfl
theorem us45 : (Try.prog.underlying 45).isSome = true := by kernel_rfl
theorem sz45 : sizeB Try.prog 45 = some 1 := by kernel_rfl
theorem na47 : isAggB Try.prog 47 = false := by kernel_rfl
theorem us47 : (Try.prog.underlying 47).isSome = true := by kernel_rfl
theorem sz47 : sizeB Try.prog 47 = some 1 := by kernel_rfl
theorem na49 : isAggB Try.prog 49 = false := by kernel_rfl
theorem us49 : (Try.prog.underlying 49).isSome = true := by kernel_rfl
theorem sz49 : sizeB Try.prog 49 = some 1 := by kernel_rfl
theorem ag50 : isAggB Try.prog 50 = true := by kernel_rfl
theorem fd50_0 : fieldB Try.prog 50 0 = some (0, 1) := by kernel_rfl
theorem fd50_1 : fieldB Try.prog 50 1 = some (1, 1) := by kernel_rfl
theorem pl50 : placesB Try.prog 50 = some [(0, 1), (1, 1)] := by kernel_rfl
theorem sz50 : sizeB Try.prog 50 = some 2 := by kernel_rfl
theorem ag51 : isAggB Try.prog 51 = true := by kernel_rfl
theorem fd51_0 : fieldB Try.prog 51 0 = some (0, 1) := by kernel_rfl
theorem fd51_1 : fieldB Try.prog 51 1 = some (1, 1) := by kernel_rfl
theorem pl51 : placesB Try.prog 51 = some [(0, 1), (1, 1)] := by kernel_rfl
theorem sz51 : sizeB Try.prog 51 = some 2 := by kernel_rfl
theorem na52 : isAggB Try.prog 52 = false := by kernel_rfl
theorem us52 : (Try.prog.underlying 52).isSome = true := by kernel_rfl
theorem sz52 : sizeB Try.prog 52 = some 1 := by kernel_rfl
theorem na53 : isAggB Try.prog 53 = false := by kernel_rfl
theorem us53 : (Try.prog.underlying 53).isSome = true := by kernel_rfl
theorem sz53 : sizeB Try.prog 53 = some 1 := by kernel_rfl
theorem un53 : Try.prog.underlying 53 = some (.slice 54) := by kernel_rfl
theorem na54 : isAggB Try.prog 54 = false := by kernel_rfl
theorem us54 : (Try.prog.underlying 54).isSome = true := by kernel_rfl
theorem sz54 : sizeB Try.prog 54 = some 1 := by kernel_rfl
theorem un54 : Try.prog.underlying 54 = some (.int .u64) := by kernel_rfl
theorem na56 : isAggB Try.prog 56 = false := by kernel_rfl
theorem us56 : (Try.prog.underlying 56).isSome = true := by kernel_rfl
theorem sz56 : sizeB Try.prog 56 = some 1 := by kernel_rfl
theorem na57 : isAggB Try.prog 57 = false := by kernel_rfl
theorem us57 : (Try.prog.underlying 57).isSome = true := by kernel_rfl
theorem sz57 : sizeB Try.prog 57 = some 1 := by kernel_rfl
theorem na58 : isAggB Try.prog 58 = false := by kernel_rfl
theorem us58 : (Try.prog.underlying 58).isSome = true := by kernel_rfl
theorem sz58 : sizeB Try.prog 58 = some 1 := by kernel_rfl
theorem na59 : isAggB Try.prog 59 = false := by kernel_rfl
theorem us59 : (Try.prog.underlying 59).isSome = true := by kernel_rfl
theorem sz59 : sizeB Try.prog 59 = some 1 := by kernel_rfl
theorem na60 : isAggB Try.prog 60 = false := by kernel_rfl
theorem us60 : (Try.prog.underlying 60).isSome = true := by kernel_rfl
theorem sz60 : sizeB Try.prog 60 = some 1 := by kernel_rfl
theorem na61 : isAggB Try.prog 61 = false := by kernel_rfl
theorem us61 : (Try.prog.underlying 61).isSome = true := by kernel_rfl
theorem sz61 : sizeB Try.prog 61 = some 1 := by kernel_rfl
theorem un61 : Try.prog.underlying 61 = some (.int .u64) := by kernel_rfl
theorem na64 : isAggB Try.prog 64 = false := by kernel_rfl
theorem us64 : (Try.prog.underlying 64).isSome = true := by kernel_rfl
theorem sz64 : sizeB Try.prog 64 = some 1 := by kernel_rfl
theorem na65 : isAggB Try.prog 65 = false := by kernel_rfl
theorem us65 : (Try.prog.underlying 65).isSome = true := by kernel_rfl
theorem sz65 : sizeB Try.prog 65 = some 1 := by kernel_rfl
theorem na66 : isAggB Try.prog 66 = false := by kernel_rfl
theorem us66 : (Try.prog.underlying 66).isSome = true := by kernel_rfl
theorem sz66 : sizeB Try.prog 66 = some 1 := by kernel_rfl
theorem na67 : isAggB Try.prog 67 = false := by kernel_rfl
theorem us67 : (Try.prog.underlying 67).isSome = true := by kernel_rfl
theorem sz67 : sizeB Try.prog 67 = some 1 := by kernel_rfl
theorem na68 : isAggB Try.prog 68 = false := by kernel_rfl
theorem us68 : (Try.prog.underlying 68).isSome = true := by kernel_rfl
theorem sz68 : sizeB Try.prog 68 = some 1 := by kernel_rfl
theorem na69 : isAggB Try.prog 69 = false := by kernel_rfl
theorem us69 : (Try.prog.underlying 69).isSome = true := by kernel_rfl
theorem sz69 : sizeB Try.prog 69 = some 1 := by kernel_rfl
theorem un69 : Try.prog.underlying 69 = some (.int .i64) := by kernel_rfl
theorem na71 : isAggB Try.prog 71 = false := by kernel_rfl
theorem us71 : (Try.prog.underlying 71).isSome = true := by kernel_rfl
theorem sz71 : sizeB Try.prog 71 = some 1 := by kernel_rfl
theorem na72 : isAggB Try.prog 72 = false := by kernel_rfl
theorem us72 : (Try.prog.underlying 72).isSome = true := by kernel_rfl
theorem sz72 : sizeB Try.prog 72 = some 1 := by kernel_rfl
theorem na73 : isAggB Try.prog 73 = false := by kernel_rfl
theorem us73 : (Try.prog.underlying 73).isSome = true := by kernel_rfl
theorem sz73 : sizeB Try.prog 73 = some 1 := by kernel_rfl
theorem na75 : isAggB Try.prog 75 = false := by kernel_rfl
theorem us75 : (Try.prog.underlying 75).isSome = true := by kernel_rfl
theorem sz75 : sizeB Try.prog 75 = some 1 := by kernel_rfl
theorem na76 : isAggB Try.prog 76 = false := by kernel_rfl
theorem us76 : (Try.prog.underlying 76).isSome = true := by kernel_rfl
theorem sz76 : sizeB Try.prog 76 = some 1 := by kernel_rfl
theorem na77 : isAggB Try.prog 77 = false := by kernel_rfl
theorem us77 : (Try.prog.underlying 77).isSome = true := by kernel_rfl
theorem sz77 : sizeB Try.prog 77 = some 1 := by kernel_rfl
theorem un77 : Try.prog.underlying 77 = some (.int .u32) := by kernel_rfl
theorem na78 : isAggB Try.prog 78 = false := by kernel_rfl
theorem us78 : (Try.prog.underlying 78).isSome = true := by kernel_rfl
theorem sz78 : sizeB Try.prog 78 = some 1 := by kernel_rfl
theorem un78 : Try.prog.underlying 78 = some (.int .u64) := by kernel_rfl
theorem na79 : isAggB Try.prog 79 = false := by kernel_rfl
theorem us79 : (Try.prog.underlying 79).isSome = true := by kernel_rfl
theorem sz79 : sizeB Try.prog 79 = some 1 := by kernel_rfl
theorem na80 : isAggB Try.prog 80 = false := by kernel_rfl
theorem us80 : (Try.prog.underlying 80).isSome = true := by kernel_rfl
theorem sz80 : sizeB Try.prog 80 = some 1 := by kernel_rfl
theorem na81 : isAggB Try.prog 81 = false := by kernel_rfl
theorem us81 : (Try.prog.underlying 81).isSome = true := by kernel_rfl
theorem sz81 : sizeB Try.prog 81 = some 1 := by kernel_rfl
theorem na82 : isAggB Try.prog 82 = false := by kernel_rfl
theorem us82 : (Try.prog.underlying 82).isSome = true := by kernel_rfl
theorem sz82 : sizeB Try.prog 82 = some 1 := by kernel_rfl
theorem na83 : isAggB Try.prog 83 = false := by kernel_rfl
theorem us83 : (Try.prog.underlying 83).isSome = true := by kernel_rfl
theorem sz83 : sizeB Try.prog 83 = some 1 := by kernel_rfl
theorem na84 : isAggB Try.prog 84 = false := by kernel_rfl
theorem us84 : (Try.prog.underlying 84).isSome = true := by kernel_rfl
theorem sz84 : sizeB Try.prog 84 = some 1 := by kernel_rfl
theorem na86 : isAggB Try.prog 86 = false := by kernel_rfl
theorem us86 : (Try.prog.underlying 86).isSome = true := by kernel_rfl
theorem sz86 : sizeB Try.prog 86 = some 1 := by kernel_rfl
theorem na87 : isAggB Try.prog 87 = false := by kernel_rfl
theorem us87 : (Try.prog.underlying 87).isSome = true := by kernel_rfl
theorem sz87 : sizeB Try.prog 87 = some 1 := by kernel_rfl
theorem ag88 : isAggB Try.prog 88 = true := by kernel_rfl
theorem fd88_0 : fieldB Try.prog 88 0 = some (0, 1) := by kernel_rfl
theorem fd88_1 : fieldB Try.prog 88 1 = some (1, 1) := by kernel_rfl
theorem fd88_2 : fieldB Try.prog 88 2 = some (2, 1) := by kernel_rfl
theorem fd88_3 : fieldB Try.prog 88 3 = some (3, 1) := by kernel_rfl
theorem pl88 : placesB Try.prog 88 = some [(0, 1), (1, 1), (2, 1), (3, 1)] := by kernel_rfl
theorem sz88 : sizeB Try.prog 88 = some 4 := by kernel_rfl
theorem ag89 : isAggB Try.prog 89 = true := by kernel_rfl
theorem fd89_0 : fieldB Try.prog 89 0 = some (0, 1) := by kernel_rfl
theorem fd89_1 : fieldB Try.prog 89 1 = some (1, 1) := by kernel_rfl
theorem fd89_2 : fieldB Try.prog 89 2 = some (2, 1) := by kernel_rfl
theorem fd89_3 : fieldB Try.prog 89 3 = some (3, 1) := by kernel_rfl
theorem pl89 : placesB Try.prog 89 = some [(0, 1), (1, 1), (2, 1), (3, 1)] := by kernel_rfl
theorem sz89 : sizeB Try.prog 89 = some 4 := by kernel_rfl
theorem ag91 : isAggB Try.prog 91 = true := by kernel_rfl
theorem ag92 : isAggB Try.prog 92 = true := by kernel_rfl
theorem na93 : isAggB Try.prog 93 = false := by kernel_rfl
theorem us93 : (Try.prog.underlying 93).isSome = true := by kernel_rfl
theorem sz93 : sizeB Try.prog 93 = some 1 := by kernel_rfl
theorem na94 : isAggB Try.prog 94 = false := by kernel_rfl
theorem us94 : (Try.prog.underlying 94).isSome = true := by kernel_rfl
theorem sz94 : sizeB Try.prog 94 = some 1 := by kernel_rfl
theorem un94 : Try.prog.underlying 94 = some (.int .u8) := by kernel_rfl
theorem na95 : isAggB Try.prog 95 = false := by kernel_rfl
theorem us95 : (Try.prog.underlying 95).isSome = true := by kernel_rfl
theorem sz95 : sizeB Try.prog 95 = some 1 := by kernel_rfl
theorem un95 : Try.prog.underlying 95 = some (.int .u8) := by kernel_rfl
theorem na96 : isAggB Try.prog 96 = false := by kernel_rfl
theorem us96 : (Try.prog.underlying 96).isSome = true := by kernel_rfl
theorem sz96 : sizeB Try.prog 96 = some 1 := by kernel_rfl
theorem na97 : isAggB Try.prog 97 = false := by kernel_rfl
theorem us97 : (Try.prog.underlying 97).isSome = true := by kernel_rfl
theorem sz97 : sizeB Try.prog 97 = some 1 := by kernel_rfl
theorem na98 : isAggB Try.prog 98 = false := by kernel_rfl
theorem us98 : (Try.prog.underlying 98).isSome = true := by kernel_rfl
theorem sz98 : sizeB Try.prog 98 = some 1 := by kernel_rfl
theorem un98 : Try.prog.underlying 98 = some (.int .i32) := by kernel_rfl
theorem na99 : isAggB Try.prog 99 = false := by kernel_rfl
theorem us99 : (Try.prog.underlying 99).isSome = true := by kernel_rfl
theorem sz99 : sizeB Try.prog 99 = some 1 := by kernel_rfl
theorem un99 : Try.prog.underlying 99 = some (.int .i32) := by kernel_rfl
theorem ag100 : isAggB Try.prog 100 = true := by kernel_rfl
theorem fd100_0 : fieldB Try.prog 100 0 = some (0, 1) := by kernel_rfl
theorem fd100_1 : fieldB Try.prog 100 1 = some (1, 1) := by kernel_rfl
theorem fd100_2 : fieldB Try.prog 100 2 = some (2, 1) := by kernel_rfl
theorem fd100_3 : fieldB Try.prog 100 3 = some (3, 1) := by kernel_rfl
theorem fd100_4 : fieldB Try.prog 100 4 = some (4, 1) := by kernel_rfl
theorem fd100_5 : fieldB Try.prog 100 5 = some (5, 1) := by kernel_rfl
theorem fd100_6 : fieldB Try.prog 100 6 = some (6, 1) := by kernel_rfl
theorem fd100_7 : fieldB Try.prog 100 7 = some (7, 1) := by kernel_rfl
theorem fd100_8 : fieldB Try.prog 100 8 = some (8, 1) := by kernel_rfl
theorem fd100_9 : fieldB Try.prog 100 9 = some (9, 1) := by kernel_rfl
theorem fd100_10 : fieldB Try.prog 100 10 = some (10, 1) := by kernel_rfl
theorem pl100 : placesB Try.prog 100 = some [(0, 1), (1, 1), (2, 1), (3, 1), (4, 1), (5, 1), (6, 1), (7, 1), (8, 1), (9, 1), (10, 1)] := by kernel_rfl
theorem sz100 : sizeB Try.prog 100 = some 11 := by kernel_rfl
theorem ag101 : isAggB Try.prog 101 = true := by kernel_rfl
theorem fd101_0 : fieldB Try.prog 101 0 = some (0, 1) := by kernel_rfl
theorem fd101_1 : fieldB Try.prog 101 1 = some (1, 1) := by kernel_rfl
theorem fd101_2 : fieldB Try.prog 101 2 = some (2, 1) := by kernel_rfl
theorem fd101_3 : fieldB Try.prog 101 3 = some (3, 1) := by kernel_rfl
theorem fd101_4 : fieldB Try.prog 101 4 = some (4, 1) := by kernel_rfl
theorem fd101_5 : fieldB Try.prog 101 5 = some (5, 1) := by kernel_rfl
theorem fd101_6 : fieldB Try.prog 101 6 = some (6, 1) := by kernel_rfl
theorem fd101_7 : fieldB Try.prog 101 7 = some (7, 1) := by kernel_rfl
theorem fd101_8 : fieldB Try.prog 101 8 = some (8, 1) := by kernel_rfl
theorem fd101_9 : fieldB Try.prog 101 9 = some (9, 1) := by kernel_rfl
theorem fd101_10 : fieldB Try.prog 101 10 = some (10, 1) := by kernel_rfl
theorem pl101 : placesB Try.prog 101 = some [(0, 1), (1, 1), (2, 1), (3, 1), (4, 1), (5, 1), (6, 1), (7, 1), (8, 1), (9, 1), (10, 1)] := by kernel_rfl
theorem sz101 : sizeB Try.prog 101 = some 11 := by kernel_rfl
theorem in2 : (Try.prog.info? 2).map (fun i => (i.zero, i.size, i.bytes)) = some (some (.int .i64 0), 1, 8) := by kernel_rfl
theorem zr2 : zeroB Try.prog 2 = some (.int .i64 0) := by kernel_rfl
theorem in3 : (Try.prog.info? 3).map (fun i => (i.zero, i.size, i.bytes)) = some (some (.int .i64 0), 1, 8) := by kernel_rfl
theorem zr3 : zeroB Try.prog 3 = some (.int .i64 0) := by kernel_rfl
theorem in4 : (Try.prog.info? 4).map (fun i => (i.zero, i.size, i.bytes)) = some (some (.bool false), 1, 1) := by kernel_rfl
theorem zr4 : zeroB Try.prog 4 = some (.bool false) := by kernel_rfl
theorem un4 : Try.prog.underlying 4 = some .bool := by kernel_rfl
theorem in5 : (Try.prog.info? 5).map (fun i => (i.zero, i.size, i.bytes)) = some (some (.int .u8 0), 1, 1) := by kernel_rfl
theorem zr5 : zeroB Try.prog 5 = some (.int .u8 0) := by kernel_rfl
theorem in6 : (Try.prog.info? 6).map (fun i => (i.zero, i.size, i.bytes)) = some (some (.int .u8 0), 1, 1) := by kernel_rfl
theorem zr6 : zeroB Try.prog 6 = some (.int .u8 0) := by kernel_rfl
theorem in7 : (Try.prog.info? 7).map (fun i => (i.zero, i.size, i.bytes)) = some (some (.agg #[.int .i64 0, .int .i64 0, .bool false, .int .u8 0]), 4, 24) := by kernel_rfl
theorem zr7 : zeroB Try.prog 7 = some (.agg #[.int .i64 0, .int .i64 0, .bool false, .int .u8 0]) := by kernel_rfl
theorem in8 : (Try.prog.info? 8).map (fun i => (i.zero, i.size, i.bytes)) = some (some (.agg #[.int .i64 0, .int .i64 0, .bool false, .int .u8 0]), 4, 24) := by kernel_rfl
theorem zr8 : zeroB Try.prog 8 = some (.agg #[.int .i64 0, .int .i64 0, .bool false, .int .u8 0]) := by kernel_rfl
theorem in12 : (Try.prog.info? 12).map (fun i => (i.zero, i.size, i.bytes)) = some (some (.int .u64 0), 1, 8) := by kernel_rfl
theorem zr12 : zeroB Try.prog 12 = some (.int .u64 0) := by kernel_rfl
theorem in15 : (Try.prog.info? 15).map (fun i => (i.zero, i.size, i.bytes)) = some (some (.pointer none), 1, 8) := by kernel_rfl
theorem zr15 : zeroB Try.prog 15 = some (.pointer none) := by kernel_rfl
theorem in16 : (Try.prog.info? 16).map (fun i => (i.zero, i.size, i.bytes)) = some (some (.pointer none), 1, 8) := by kernel_rfl
theorem zr16 : zeroB Try.prog 16 = some (.pointer none) := by kernel_rfl
theorem in17 : (Try.prog.info? 17).map (fun i => (i.zero, i.size, i.bytes)) = some (some (.pointer none), 1, 8) := by kernel_rfl
theorem zr17 : zeroB Try.prog 17 = some (.pointer none) := by kernel_rfl
theorem in18 : (Try.prog.info? 18).map (fun i => (i.zero, i.size, i.bytes)) = some (some (.agg #[.pointer none]), 1, 8) := by kernel_rfl
theorem zr18 : zeroB Try.prog 18 = some (.agg #[.pointer none]) := by kernel_rfl
theorem in19 : (Try.prog.info? 19).map (fun i => (i.zero, i.size, i.bytes)) = some (some (.agg #[.pointer none]), 1, 8) := by kernel_rfl
theorem zr19 : zeroB Try.prog 19 = some (.agg #[.pointer none]) := by kernel_rfl
theorem in21 : (Try.prog.info? 21).map (fun i => (i.zero, i.size, i.bytes)) = some (some (.int .i32 0), 1, 4) := by kernel_rfl
theorem zr21 : zeroB Try.prog 21 = some (.int .i32 0) := by kernel_rfl
theorem in22 : (Try.prog.info? 22).map (fun i => (i.zero, i.size, i.bytes)) = some (some (.slice none 0 0), 1, 24) := by kernel_rfl
theorem zr22 : zeroB Try.prog 22 = some (.slice none 0 0) := by kernel_rfl
theorem in24 : (Try.prog.info? 24).map (fun i => (i.zero, i.size, i.bytes)) = some (some (.int .i64 0), 1, 8) := by kernel_rfl
theorem zr24 : zeroB Try.prog 24 = some (.int .i64 0) := by kernel_rfl
theorem in27 : (Try.prog.info? 27).map (fun i => (i.zero, i.size, i.bytes)) = some (some (.pointer none), 1, 8) := by kernel_rfl
theorem zr27 : zeroB Try.prog 27 = some (.pointer none) := by kernel_rfl
theorem in34 : (Try.prog.info? 34).map (fun i => (i.zero, i.size, i.bytes)) = some (some (.slice none 0 0), 1, 24) := by kernel_rfl
theorem zr34 : zeroB Try.prog 34 = some (.slice none 0 0) := by kernel_rfl
theorem in35 : (Try.prog.info? 35).map (fun i => (i.zero, i.size, i.bytes)) = some (some (.int .u16 0), 1, 2) := by kernel_rfl
theorem zr35 : zeroB Try.prog 35 = some (.int .u16 0) := by kernel_rfl
theorem in50 : (Try.prog.info? 50).map (fun i => (i.zero, i.size, i.bytes)) = some (some (.agg #[.slice none 0 0, .int .i64 0]), 2, 32) := by kernel_rfl
theorem zr50 : zeroB Try.prog 50 = some (.agg #[.slice none 0 0, .int .i64 0]) := by kernel_rfl
theorem in51 : (Try.prog.info? 51).map (fun i => (i.zero, i.size, i.bytes)) = some (some (.agg #[.slice none 0 0, .int .i64 0]), 2, 32) := by kernel_rfl
theorem zr51 : zeroB Try.prog 51 = some (.agg #[.slice none 0 0, .int .i64 0]) := by kernel_rfl
theorem in53 : (Try.prog.info? 53).map (fun i => (i.zero, i.size, i.bytes)) = some (some (.slice none 0 0), 1, 24) := by kernel_rfl
theorem zr53 : zeroB Try.prog 53 = some (.slice none 0 0) := by kernel_rfl
theorem in54 : (Try.prog.info? 54).map (fun i => (i.zero, i.size, i.bytes)) = some (some (.int .u64 0), 1, 8) := by kernel_rfl
theorem zr54 : zeroB Try.prog 54 = some (.int .u64 0) := by kernel_rfl
theorem in61 : (Try.prog.info? 61).map (fun i => (i.zero, i.size, i.bytes)) = some (some (.int .u64 0), 1, 8) := by kernel_rfl
theorem zr61 : zeroB Try.prog 61 = some (.int .u64 0) := by kernel_rfl
theorem in69 : (Try.prog.info? 69).map (fun i => (i.zero, i.size, i.bytes)) = some (some (.int .i64 0), 1, 8) := by kernel_rfl
theorem zr69 : zeroB Try.prog 69 = some (.int .i64 0) := by kernel_rfl
theorem in77 : (Try.prog.info? 77).map (fun i => (i.zero, i.size, i.bytes)) = some (some (.int .u32 0), 1, 4) := by kernel_rfl
theorem zr77 : zeroB Try.prog 77 = some (.int .u32 0) := by kernel_rfl
theorem in78 : (Try.prog.info? 78).map (fun i => (i.zero, i.size, i.bytes)) = some (some (.int .u64 0), 1, 8) := by kernel_rfl
theorem zr78 : zeroB Try.prog 78 = some (.int .u64 0) := by kernel_rfl
theorem in82 : (Try.prog.info? 82).map (fun i => (i.zero, i.size, i.bytes)) = some (some (.pointer none), 1, 8) := by kernel_rfl
theorem zr82 : zeroB Try.prog 82 = some (.pointer none) := by kernel_rfl
theorem in84 : (Try.prog.info? 84).map (fun i => (i.zero, i.size, i.bytes)) = some (some (.pointer none), 1, 8) := by kernel_rfl
theorem zr84 : zeroB Try.prog 84 = some (.pointer none) := by kernel_rfl
theorem in94 : (Try.prog.info? 94).map (fun i => (i.zero, i.size, i.bytes)) = some (some (.int .u8 0), 1, 1) := by kernel_rfl
theorem zr94 : zeroB Try.prog 94 = some (.int .u8 0) := by kernel_rfl
theorem in95 : (Try.prog.info? 95).map (fun i => (i.zero, i.size, i.bytes)) = some (some (.int .u8 0), 1, 1) := by kernel_rfl
theorem zr95 : zeroB Try.prog 95 = some (.int .u8 0) := by kernel_rfl
theorem in97 : (Try.prog.info? 97).map (fun i => (i.zero, i.size, i.bytes)) = some (some (.pointer none), 1, 8) := by kernel_rfl
theorem zr97 : zeroB Try.prog 97 = some (.pointer none) := by kernel_rfl
theorem in98 : (Try.prog.info? 98).map (fun i => (i.zero, i.size, i.bytes)) = some (some (.int .i32 0), 1, 4) := by kernel_rfl
theorem zr98 : zeroB Try.prog 98 = some (.int .i32 0) := by kernel_rfl
theorem in99 : (Try.prog.info? 99).map (fun i => (i.zero, i.size, i.bytes)) = some (some (.int .i32 0), 1, 4) := by kernel_rfl
theorem zr99 : zeroB Try.prog 99 = some (.int .i32 0) := by kernel_rfl
theorem mixed : Try.prog.follows .mixedOrders = true := by kernel_rfl
end Go.Proofs.Yteohebcimnjlbaa
