/- Texts of the machine V and of the proofs over it, one behind the other. -/
import Derived.Test.YtbpajecjaoefaaaGreatM1
import Derived.Test.YtbpajecjaoefaaaGreatProg
import Derived.Deep.Grids
import Derived.Deep.Matrix
import Derived.SizedLaws
import Derived.ChangeSlices
set_option linter.unusedVariables false
set_option linter.unusedSimpArgs false
/- The code of functions, in the form of the machine V (printed by vgen.py). -/
namespace Go.Proofs.YtbpajecjaoefaaaGreat.V
open Go Go.RowKit Go.Proofs.Tryz
abbrev TSSint : Nat := 22
abbrev TSapi_Factor : Nat := 40
abbrev TSint : Nat := 26
abbrev Tapi_Factor : Nat := 43
abbrev Tbool : Nat := 4
abbrev Tgroup_group : Nat := 46
abbrev Tint : Nat := 3
abbrev Tslices_xorshift : Nat := 121
abbrev Tsort_lessSwap : Nat := 87
abbrev Tsort_xorshift : Nat := 106
abbrev Tstring : Nat := 9
abbrev Tuint8 : Nat := 5
abbrev F_cmp_Less_int : Nat := 131
abbrev F_cmp_isNaN_int : Nat := 141
abbrev F_group_CheckSeries : Nat := 38
abbrev F_group_Closure : Nat := 15
abbrev F_group_Cosets : Nat := 29
abbrev F_group_Derived : Nat := 16
abbrev F_group_Factors : Nat := 37
abbrev F_group_Factors_1 : Nat := 72
abbrev F_group_Generate : Nat := 76
abbrev F_group_Generate_1 : Nat := 93
abbrev F_group_IsGroup : Nat := 35
abbrev F_group_IsSubgroup : Nat := 27
abbrev F_group_Normal : Nat := 28
abbrev F_group_Normals : Nat := 23
abbrev F_group_Normals_1 : Nat := 57
abbrev F_group_Quotient : Nat := 33
abbrev F_group_Series : Nat := 36
abbrev F_group_Simple : Nat := 13
abbrev F_group_Solvable : Nat := 11
abbrev F_group_Table : Nat := 77
abbrev F_group_group_all : Nat := 44
abbrev F_group_group_closure : Nat := 47
abbrev F_group_group_cosets : Nat := 63
abbrev F_group_group_derived : Nat := 45
abbrev F_group_group_generate : Nat := 55
abbrev F_group_group_maximal : Nat := 71
abbrev F_group_group_normal : Nat := 62
abbrev F_group_group_quotient : Nat := 68
abbrev F_group_group_simple : Nat := 46
abbrev F_group_group_subgroup : Nat := 61
abbrev F_group_group_within : Nat := 70
abbrev F_group_inverses : Nat := 73
abbrev F_group_key : Nat := 54
abbrev F_group_lessList : Nat := 58
abbrev F_group_of : Nat := 43
abbrev F_group_permutations : Nat := 90
abbrev F_law16_awake : Nat := 10
abbrev F_law16_large : Nat := 9
abbrev F_law16_three : Nat := 42
abbrev F_math_bits_Len : Nat := 86
abbrev F_math_bits_Len32 : Nat := 104
abbrev F_math_bits_Len64 : Nat := 105
abbrev F_mult_Validate : Nat := 53
abbrev F_mult_failing : Nat := 81
abbrev F_mult_shape : Nat := 80
abbrev F_partition_Discrete : Nat := 78
abbrev F_ref03_Canonical : Nat := 67
abbrev F_ref03_Classes : Nat := 69
abbrev F_ref03_Count : Nat := 89
abbrev F_ref03_Discrete : Nat := 52
abbrev F_ref03_Less : Nat := 114
abbrev F_ref03_Members : Nat := 79
abbrev F_ref03_Merge : Nat := 66
abbrev F_ref03_Same : Nat := 18
abbrev F_ref03_SameRows : Nat := 25
abbrev F_ref03_Set : Nat := 65
abbrev F_ref14_Ascending : Nat := 64
abbrev F_ref14_Associative : Nat := 59
abbrev F_ref14_Center : Nat := 75
abbrev F_ref14_Generated : Nat := 51
abbrev F_ref14_Identity : Nat := 49
abbrev F_ref14_In : Nat := 21
abbrev F_ref14_Shape : Nat := 41
abbrev F_ref14_Sub : Nat := 74
abbrev F_ref14_Valid : Nat := 48
abbrev F_ref14_Validate : Nat := 24
abbrev F_ref16_All : Nat := 20
abbrev F_ref16_CheckSeries : Nat := 39
abbrev F_ref16_Closure : Nat := 22
abbrev F_ref16_Cosets : Nat := 32
abbrev F_ref16_Derived : Nat := 19
abbrev F_ref16_Factors : Nat := 40
abbrev F_ref16_InsertSet : Nat := 60
abbrev F_ref16_Inverse : Nat := 50
abbrev F_ref16_IsGroup : Nat := 17
abbrev F_ref16_IsSubgroup : Nat := 30
abbrev F_ref16_Normal : Nat := 31
abbrev F_ref16_Normals : Nat := 26
abbrev F_ref16_Quotient : Nat := 34
abbrev F_ref16_Simple : Nat := 14
abbrev F_ref16_Solvable : Nat := 12
abbrev F_ref16_less : Nat := 88
abbrev F_slices_Sort__int_int : Nat := 94
abbrev F_slices_breakPatternsOrdered_int : Nat := 127
abbrev F_slices_choosePivotOrdered_int : Nat := 128
abbrev F_slices_heapSortOrdered_int : Nat := 126
abbrev F_slices_insertionSortOrdered_int : Nat := 125
abbrev F_slices_medianAdjacentOrdered_int : Nat := 139
abbrev F_slices_medianOrdered_int : Nat := 140
abbrev F_slices_nextPowerOfTwo : Nat := 137
abbrev F_slices_order2Ordered_int : Nat := 142
abbrev F_slices_partialInsertionSortOrdered_int : Nat := 130
abbrev F_slices_partitionEqualOrdered_int : Nat := 132
abbrev F_slices_partitionOrdered_int : Nat := 133
abbrev F_slices_pdqsortOrdered_int : Nat := 118
abbrev F_slices_reverseRangeOrdered_int : Nat := 129
abbrev F_slices_siftDownOrdered_int : Nat := 136
abbrev F_slices_xorshift_Next : Nat := 138
abbrev F_sort_Ints : Nat := 82
abbrev F_sort_Slice : Nat := 56
abbrev F_sort_breakPatterns_func : Nat := 108
abbrev F_sort_choosePivot_func : Nat := 109
abbrev F_sort_heapSort_func : Nat := 107
abbrev F_sort_insertionSort_func : Nat := 106
abbrev F_sort_medianAdjacent_func : Nat := 122
abbrev F_sort_median_func : Nat := 123
abbrev F_sort_nextPowerOfTwo : Nat := 120
abbrev F_sort_order2_func : Nat := 134
abbrev F_sort_partialInsertionSort_func : Nat := 111
abbrev F_sort_reverseRange_func : Nat := 110
abbrev F_sort_siftDown_func : Nat := 119
abbrev F_sort_xorshift_Next : Nat := 121
abbrev F_trans_Compose : Nat := 92
abbrev F_trans_Identity : Nat := 91
abbrev F_trans_Image : Nat := 135
abbrev F_trans_IsPermutation : Nat := 115
abbrev F_trans_Rank : Nat := 124
abbrev F_trans_Valid : Nat := 116
abbrev F_trans_compose : Nat := 117
theorem mix_ : prog.follows .mixedOrders = true := by kernel_rfl
-- semigroup/semigrouplaw16.GroupClosures: semigroup/semigrouplaw16/law.go .. 99
namespace C.law16.GroupClosures
def top : AC := .seq (.reg [⟨some 4, none, .mov (.k (.bool false))⟩] ([0, 1], [])) (.seq (.seq (.reg [⟨some 7, none, .mov (.r 0)⟩, ⟨some 8, none, .call F_law16_large [(.r 7), (.k (.int .i64 20))]⟩] ([0, 1, 8], [])) (.cond (.r 8) (.seq (.reg [⟨some 9, none, .call F_law16_awake []⟩, ⟨some 4, none, .mov (.r 9)⟩] ([4], [])) .ret) .skip)) (.seq (.reg [⟨some 10, none, .mov (.r 0)⟩, ⟨some 11, none, .mov (.r 1)⟩, ⟨some 12, none, .call F_group_Closure [(.r 10), (.r 11)]⟩, ⟨some 13, none, .mov (.r 0)⟩, ⟨some 14, none, .call F_group_Derived [(.r 13)]⟩, ⟨some 5, none, .mov (.r 12)⟩, ⟨some 6, none, .mov (.r 14)⟩] ([0, 1, 5, 6], [])) (.seq (.seq (.reg [⟨some 15, none, .mov (.r 0)⟩, ⟨some 16, none, .call F_ref16_IsGroup [(.r 15)]⟩, ⟨some 17, none, .un .not (.r 16)⟩] ([0, 1, 5, 6, 17], [])) (.cond (.r 17) (.seq (.reg [⟨some 18, none, .mov (.r 5)⟩, ⟨some 19, none, .len (.r 18)⟩, ⟨some 20, none, .bin .eql (.r 19) (.k (.int .i64 0))⟩, ⟨some 21, none, .mov (.r 20)⟩, ⟨some 22, (some (21, true)), .mov (.r 6)⟩, ⟨some 23, (some (21, true)), .len (.r 22)⟩, ⟨some 24, (some (21, true)), .bin .eql (.r 23) (.k (.int .i64 0))⟩, ⟨some 25, none, .pick (.r 21) (.r 24) (.k (.bool false))⟩, ⟨some 26, none, .mov (.r 25)⟩, ⟨some 27, (some (26, true)), .call F_law16_awake []⟩, ⟨some 28, none, .pick (.r 26) (.r 27) (.k (.bool false))⟩, ⟨some 4, none, .mov (.r 28)⟩] ([4], [])) .ret) .skip)) (.seq (.seq (.reg [⟨some 29, none, .mov (.r 6)⟩, ⟨some 30, none, .mov (.r 0)⟩, ⟨some 31, none, .mov (.r 0)⟩, ⟨some 32, none, .call F_ref16_All [(.r 31)]⟩, ⟨some 33, none, .call F_ref16_Derived [(.r 30), (.r 32)]⟩, ⟨some 34, none, .call F_ref03_Same [(.r 29), (.r 33)]⟩, ⟨some 35, none, .un .not (.r 34)⟩] ([0, 1, 5, 35], [])) (.cond (.r 35) (.seq (.reg [⟨some 4, none, .mov (.k (.bool false))⟩] ([4], [])) .ret) .skip)) (.seq (.seq (.reg [⟨some 36, none, .mov (.r 0)⟩, ⟨some 37, none, .mov (.r 1)⟩, ⟨some 38, none, .call F_ref14_In [(.r 36), (.r 37)]⟩, ⟨some 39, none, .un .not (.r 38)⟩] ([0, 1, 5, 39], [])) (.cond (.r 39) (.seq (.reg [⟨some 40, none, .mov (.r 5)⟩, ⟨some 41, none, .len (.r 40)⟩, ⟨some 42, none, .bin .eql (.r 41) (.k (.int .i64 0))⟩, ⟨some 43, none, .mov (.r 42)⟩, ⟨some 44, (some (43, true)), .call F_law16_awake []⟩, ⟨some 45, none, .pick (.r 43) (.r 44) (.k (.bool false))⟩, ⟨some 4, none, .mov (.r 45)⟩] ([4], [])) .ret) .skip)) (.seq (.reg [⟨some 46, none, .mov (.r 5)⟩, ⟨some 47, none, .mov (.r 0)⟩, ⟨some 48, none, .mov (.r 1)⟩, ⟨some 49, none, .call F_ref16_Closure [(.r 47), (.r 48)]⟩, ⟨some 50, none, .call F_ref03_Same [(.r 46), (.r 49)]⟩, ⟨some 51, none, .mov (.r 50)⟩, ⟨some 52, (some (51, true)), .call F_law16_awake []⟩, ⟨some 53, none, .pick (.r 51) (.r 52) (.k (.bool false))⟩, ⟨some 4, none, .mov (.r 53)⟩] ([4], [])) .ret))))))
def anno : Anno := ⟨0, [], [(0, ([0, 1], [])), (1, ([0, 1, 8], [])), (2, ([4], [])), (3, ([0, 1, 5, 6], [])), (4, ([0, 1, 5, 6, 17], [])), (5, ([4], [])), (6, ([0, 1, 5, 35], [])), (7, ([4], [])), (8, ([0, 1, 5, 39], [])), (9, ([4], [])), (10, ([4], []))], [], [], []⟩
def rs : List RV := [.tm 4]
theorem comp_ : f4.body.bind (compile prog anno) = some top := by kernel_rfl
theorem rs_ : rvsOf prog f4.results.toList = some rs := by kernel_rfl
theorem fkS {es : List Ent} {ss : List Spe} (h : Fks prog es) (hs : Fsps prog ss) {leak : Bool} {R : List AV → AV → Prop} (k : ∀ args r, R args r → Run (ctx es ss) top rs 54 0 args r ∧ (leak = false → Fr r)) : Fk prog ⟨4, leak, R⟩ := fk_of h hs mix_ (by kernel_rfl : prog.funcs[4]? = some f4) (by kernel_rfl) comp_ rs_ k
theorem fq {es : List Ent} (h : Fqs prog es) {leak : Bool} {R : List AV → AV → Prop} (hq : quietX (ctxQ es) top = true) (k : ∀ args r, R args r → Run (ctxQ es) top rs 54 0 args r ∧ (leak = false → Fr r)) : Fq prog ⟨4, leak, R⟩ := fq_of h mix_ (by kernel_rfl : prog.funcs[4]? = some f4) (by kernel_rfl) comp_ rs_ hq k
theorem fk {es : List Ent} (h : Fks prog es) {leak : Bool} {R : List AV → AV → Prop} (k : ∀ args r, R args r → Run (ctx es) top rs 54 0 args r ∧ (leak = false → Fr r)) : Fk prog ⟨4, leak, R⟩ := fkS (ss := []) h trivial k
end C.law16.GroupClosures
-- semigroup/semigrouplaw16.large: semigroup/semigrouplaw16/law.go .. 29
namespace C.law16.large
def top : AC := .seq (.reg [⟨some 4, none, .mov (.k (.bool false))⟩] ([0, 1], [])) (.seq (.reg [⟨some 5, none, .mov (.r 0)⟩, ⟨some 6, none, .len (.r 5)⟩, ⟨some 7, none, .mov (.r 1)⟩, ⟨some 8, none, .bin .gtr (.r 6) (.r 7)⟩, ⟨some 9, none, .mov (.r 8)⟩, ⟨some 10, (some (9, true)), .mov (.r 0)⟩, ⟨some 11, (some (9, true)), .call F_ref14_Shape [(.r 10)]⟩, ⟨some 12, (some (9, true)), .bin .eql (.r 11) (.k (.int .i64 0))⟩, ⟨some 13, none, .pick (.r 9) (.r 12) (.k (.bool false))⟩, ⟨some 4, none, .mov (.r 13)⟩] ([4], [])) .ret)
def anno : Anno := ⟨0, [], [(0, ([0, 1], [])), (1, ([4], []))], [], [], []⟩
def rs : List RV := [.tm 4]
theorem comp_ : f9.body.bind (compile prog anno) = some top := by kernel_rfl
theorem rs_ : rvsOf prog f9.results.toList = some rs := by kernel_rfl
theorem fkS {es : List Ent} {ss : List Spe} (h : Fks prog es) (hs : Fsps prog ss) {leak : Bool} {R : List AV → AV → Prop} (k : ∀ args r, R args r → Run (ctx es ss) top rs 14 0 args r ∧ (leak = false → Fr r)) : Fk prog ⟨9, leak, R⟩ := fk_of h hs mix_ (by kernel_rfl : prog.funcs[9]? = some f9) (by kernel_rfl) comp_ rs_ k
theorem fq {es : List Ent} (h : Fqs prog es) {leak : Bool} {R : List AV → AV → Prop} (hq : quietX (ctxQ es) top = true) (k : ∀ args r, R args r → Run (ctxQ es) top rs 14 0 args r ∧ (leak = false → Fr r)) : Fq prog ⟨9, leak, R⟩ := fq_of h mix_ (by kernel_rfl : prog.funcs[9]? = some f9) (by kernel_rfl) comp_ rs_ hq k
theorem fk {es : List Ent} (h : Fks prog es) {leak : Bool} {R : List AV → AV → Prop} (k : ∀ args r, R args r → Run (ctx es) top rs 14 0 args r ∧ (leak = false → Fr r)) : Fk prog ⟨9, leak, R⟩ := fkS (ss := []) h trivial k
end C.law16.large
-- semigroup/semigrouplaw16.awake: semigroup/semigrouplaw16/law.go .. 24
namespace C.law16.awake
def top : AC := .seq (.reg [⟨some 0, none, .mov (.k (.bool false))⟩] ([], [])) (.seq (.reg [⟨some 2, none, .call F_law16_three []⟩, ⟨some 3, none, .call F_group_Factors [(.r 2)]⟩, ⟨some 1, none, .mov (.r 3)⟩] ([1], [])) (.seq (.reg [⟨some 4, none, .mov (.r 1)⟩, ⟨some 5, none, .len (.r 4)⟩, ⟨some 6, none, .bin .eql (.r 5) (.k (.int .i64 2))⟩, ⟨some 7, none, .mov (.r 6)⟩, ⟨some 8, (some (7, true)), .mov (.r 1)⟩, ⟨some 9, (some (7, true)), .idxA 2 (.r 8) (.k (.int .i64 0))⟩, ⟨some 10, (some (7, true)), .load 2 true (.r 9)⟩, ⟨some 11, (some (7, true)), .bld [.int .i64 0, .bool false] [(0, 1, (.k (.int .i64 2))), (1, 1, (.k (.bool true)))]⟩, ⟨some 12, (some (7, true)), .aeq false [.int .i64, .bool] (.r 10) (.r 11)⟩, ⟨some 13, none, .pick (.r 7) (.r 12) (.k (.bool false))⟩, ⟨some 14, none, .mov (.r 13)⟩, ⟨some 15, (some (14, true)), .mov (.r 1)⟩, ⟨some 16, (some (14, true)), .idxA 2 (.r 15) (.k (.int .i64 1))⟩, ⟨some 17, (some (14, true)), .load 2 true (.r 16)⟩, ⟨some 18, (some (14, true)), .bld [.int .i64 0, .bool false] [(0, 1, (.k (.int .i64 3))), (1, 1, (.k (.bool true)))]⟩, ⟨some 19, (some (14, true)), .aeq false [.int .i64, .bool] (.r 17) (.r 18)⟩, ⟨some 20, none, .pick (.r 14) (.r 19) (.k (.bool false))⟩, ⟨some 21, none, .mov (.r 20)⟩, ⟨some 22, (some (21, true)), .call F_law16_three []⟩, ⟨some 23, (some (21, true)), .call F_group_Simple [(.r 22)]⟩, ⟨some 24, (some (21, true)), .un .not (.r 23)⟩, ⟨some 25, none, .pick (.r 21) (.r 24) (.k (.bool false))⟩, ⟨some 0, none, .mov (.r 25)⟩] ([0], [])) .ret))
def anno : Anno := ⟨0, [], [(0, ([], [])), (1, ([1], [])), (2, ([0], []))], [], [], []⟩
def rs : List RV := [.tm 0]
theorem comp_ : f10.body.bind (compile prog anno) = some top := by kernel_rfl
theorem rs_ : rvsOf prog f10.results.toList = some rs := by kernel_rfl
theorem fkS {es : List Ent} {ss : List Spe} (h : Fks prog es) (hs : Fsps prog ss) {leak : Bool} {R : List AV → AV → Prop} (k : ∀ args r, R args r → Run (ctx es ss) top rs 26 0 args r ∧ (leak = false → Fr r)) : Fk prog ⟨10, leak, R⟩ := fk_of h hs mix_ (by kernel_rfl : prog.funcs[10]? = some f10) (by kernel_rfl) comp_ rs_ k
theorem fq {es : List Ent} (h : Fqs prog es) {leak : Bool} {R : List AV → AV → Prop} (hq : quietX (ctxQ es) top = true) (k : ∀ args r, R args r → Run (ctxQ es) top rs 26 0 args r ∧ (leak = false → Fr r)) : Fq prog ⟨10, leak, R⟩ := fq_of h mix_ (by kernel_rfl : prog.funcs[10]? = some f10) (by kernel_rfl) comp_ rs_ hq k
theorem fk {es : List Ent} (h : Fks prog es) {leak : Bool} {R : List AV → AV → Prop} (k : ∀ args r, R args r → Run (ctx es) top rs 26 0 args r ∧ (leak = false → Fr r)) : Fk prog ⟨10, leak, R⟩ := fkS (ss := []) h trivial k
end C.law16.awake
-- semigroup/group.Simple: semigroup/group/group.go .. 367
namespace C.group.Simple
def top : AC := .seq (.reg [⟨some 2, none, .mov (.k (.bool false))⟩] ([0], [])) (.seq (.reg [⟨some 6, none, .mov (.r 0)⟩, ⟨some 7, none, .call F_group_of [(.r 6)]⟩, ⟨some 5, none, .mov (.r 7)⟩, ⟨some 8, none, .ext 0 (.r 5)⟩, ⟨some 9, none, .ext 1 (.r 5)⟩, ⟨some 3, none, .alc 0 Tgroup_group [.slice none 0 0, .int .i64 0, .slice none 0 0]⟩, ⟨none, none, .store 3 (.r 3) (.r 8)⟩, ⟨some 4, none, .mov (.r 9)⟩] ([3, 4], [0])) (.seq (.reg [⟨some 10, none, .mov (.r 4)⟩, ⟨some 11, none, .mov (.r 10)⟩, ⟨some 12, (some (11, true)), .load 3 true (.r 3)⟩, ⟨some 13, (some (11, true)), .call F_group_group_simple [(.r 12)]⟩, ⟨some 14, none, .pick (.r 11) (.r 13) (.k (.bool false))⟩, ⟨some 2, none, .mov (.r 14)⟩] ([2], [])) .ret))
def anno : Anno := ⟨1, [(1, 5, 0)], [(0, ([0], [])), (1, ([3, 4], [0])), (2, ([2], []))], [], [], []⟩
def rs : List RV := [.tm 2]
theorem comp_ : f13.body.bind (compile prog anno) = some top := by kernel_rfl
theorem rs_ : rvsOf prog f13.results.toList = some rs := by kernel_rfl
theorem fkS {es : List Ent} {ss : List Spe} (h : Fks prog es) (hs : Fsps prog ss) {leak : Bool} {R : List AV → AV → Prop} (k : ∀ args r, R args r → Run (ctx es ss) top rs 15 1 args r ∧ (leak = false → Fr r)) : Fk prog ⟨13, leak, R⟩ := fk_of h hs mix_ (by kernel_rfl : prog.funcs[13]? = some f13) (by kernel_rfl) comp_ rs_ k
theorem fk {es : List Ent} (h : Fks prog es) {leak : Bool} {R : List AV → AV → Prop} (k : ∀ args r, R args r → Run (ctx es) top rs 15 1 args r ∧ (leak = false → Fr r)) : Fk prog ⟨13, leak, R⟩ := fkS (ss := []) h trivial k
end C.group.Simple
-- semigroup/group.Closure: semigroup/group/group.go .. 210
namespace C.group.Closure
def l0 : AC := .seq (.reg [⟨some 19, none, .bin .lss (.r 18) (.r 17)⟩] ([0, 1, 5, 16, 17, 18, 19], [0])) (.seq (.cond (.r 19) .skip (.exit 0 ([1, 5], [0]))) (.seq (.block 1 (.seq (.reg [⟨some 20, none, .idxA 1 (.r 16) (.r 18)⟩, ⟨some 21, none, .load 1 false (.r 20)⟩, ⟨some 8, none, .mov (.r 21)⟩] ([0, 1, 5, 8, 16, 17, 18], [0])) (.seq (.reg [⟨some 22, none, .mov (.r 8)⟩, ⟨some 23, none, .bin .lss (.r 22) (.k (.int .i64 0))⟩, ⟨some 24, none, .mov (.r 23)⟩, ⟨some 25, (some (24, false)), .mov (.r 8)⟩, ⟨some 26, (some (24, false)), .mov (.r 0)⟩, ⟨some 27, (some (24, false)), .len (.r 26)⟩, ⟨some 28, (some (24, false)), .bin .geq (.r 25) (.r 27)⟩, ⟨some 29, none, .pick (.r 24) (.k (.bool true)) (.r 28)⟩] ([0, 1, 5, 16, 17, 18, 29], [0])) (.cond (.r 29) (.seq (.reg [⟨some 4, none, .nilf true 1⟩] ([4], [])) .ret) .skip)))) (.reg [⟨some 30, none, .bin .add (.r 18) (.k (.int .i64 1))⟩, ⟨some 18, none, .mov (.r 30)⟩] ([0, 1, 5, 16, 17, 18], [0]))))
abbrev L0 : AC := .loop l0 ([0, 1, 5, 16, 17, 18], [0])
def top : AC := .seq (.reg [⟨some 4, none, .nilf true 1⟩] ([0, 1], [])) (.seq (.reg [⟨some 10, none, .mov (.r 0)⟩, ⟨some 11, none, .call F_group_of [(.r 10)]⟩, ⟨some 9, none, .mov (.r 11)⟩, ⟨some 12, none, .ext 0 (.r 9)⟩, ⟨some 13, none, .ext 1 (.r 9)⟩, ⟨some 5, none, .alc 0 Tgroup_group [.slice none 0 0, .int .i64 0, .slice none 0 0]⟩, ⟨none, none, .store 3 (.r 5) (.r 12)⟩, ⟨some 6, none, .mov (.r 13)⟩] ([0, 1, 5, 6], [0])) (.seq (.seq (.reg [⟨some 14, none, .mov (.r 6)⟩, ⟨some 15, none, .un .not (.r 14)⟩] ([0, 1, 5, 15], [0])) (.cond (.r 15) (.seq (.reg [⟨some 4, none, .nilf true 1⟩] ([4], [])) .ret) .skip)) (.seq (.seq (.reg [⟨some 16, none, .mov (.r 1)⟩, ⟨some 17, none, .len (.r 16)⟩, ⟨some 18, none, .mov (.k (.int .i64 0))⟩] ([0, 1, 5, 16, 17, 18], [0])) (.block 0 (.loop l0 ([0, 1, 5, 16, 17, 18], [0])))) (.seq (.reg [⟨some 31, none, .load 3 true (.r 5)⟩, ⟨some 32, none, .mov (.r 1)⟩, ⟨some 33, none, .call F_group_group_closure [(.r 31), (.r 32)]⟩, ⟨some 4, none, .mov (.r 33)⟩] ([4], [])) .ret))))
def anno : Anno := ⟨1, [(0, 0, 1000000), (1, 5, 0), (3, 0, 1000000), (8, 0, 1000000)], [(0, ([0, 1], [])), (1, ([0, 1, 5, 6], [0])), (2, ([0, 1, 5, 15], [0])), (3, ([4], [])), (4, ([0, 1, 5, 16, 17, 18], [0])), (5, ([0, 1, 5, 16, 17, 18, 19], [0])), (6, ([0, 1, 5, 8, 16, 17, 18], [0])), (7, ([0, 1, 5, 16, 17, 18, 29], [0])), (8, ([4], [])), (9, ([0, 1, 5, 16, 17, 18], [0])), (10, ([4], []))], [(0, ([0, 1, 5, 16, 17, 18], [0]))], [(0, ([1, 5], [0])), (1, ([0, 1, 5, 16, 17, 18], [0]))], []⟩
def rs : List RV := [.tm 4]
theorem comp_ : f15.body.bind (compile prog anno) = some top := by kernel_rfl
theorem rs_ : rvsOf prog f15.results.toList = some rs := by kernel_rfl
theorem fkS {es : List Ent} {ss : List Spe} (h : Fks prog es) (hs : Fsps prog ss) {leak : Bool} {R : List AV → AV → Prop} (k : ∀ args r, R args r → Run (ctx es ss) top rs 34 1 args r ∧ (leak = false → Fr r)) : Fk prog ⟨15, leak, R⟩ := fk_of h hs mix_ (by kernel_rfl : prog.funcs[15]? = some f15) (by kernel_rfl) comp_ rs_ k
theorem fk {es : List Ent} (h : Fks prog es) {leak : Bool} {R : List AV → AV → Prop} (k : ∀ args r, R args r → Run (ctx es) top rs 34 1 args r ∧ (leak = false → Fr r)) : Fk prog ⟨15, leak, R⟩ := fkS (ss := []) h trivial k
end C.group.Closure
-- semigroup/group.Derived: semigroup/group/group.go .. 331
namespace C.group.Derived
def top : AC := .seq (.reg [⟨some 2, none, .nilf true 1⟩] ([0], [])) (.seq (.reg [⟨some 6, none, .mov (.r 0)⟩, ⟨some 7, none, .call F_group_of [(.r 6)]⟩, ⟨some 5, none, .mov (.r 7)⟩, ⟨some 8, none, .ext 0 (.r 5)⟩, ⟨some 9, none, .ext 1 (.r 5)⟩, ⟨some 3, none, .alc 0 Tgroup_group [.slice none 0 0, .int .i64 0, .slice none 0 0]⟩, ⟨none, none, .store 3 (.r 3) (.r 8)⟩, ⟨some 4, none, .mov (.r 9)⟩] ([3, 4], [0])) (.seq (.seq (.reg [⟨some 10, none, .mov (.r 4)⟩, ⟨some 11, none, .un .not (.r 10)⟩] ([3, 11], [0])) (.cond (.r 11) (.seq (.reg [⟨some 2, none, .nilf true 1⟩] ([2], [])) .ret) .skip)) (.seq (.dreg [⟨some 12, none, .load 3 true (.r 3)⟩, ⟨some 13, none, .load 3 true (.r 3)⟩, ⟨some 14, none, .call F_group_group_all [(.r 13)]⟩, ⟨some 15, none, .call F_group_group_derived [(.r 12), (.r 14)]⟩, ⟨some 2, none, .mov (.r 15)⟩] (List.replicate 5 ⟨none, []⟩) ([2], [])) .ret)))
def anno : Anno := ⟨1, [(0, 0, 1000000), (1, 5, 0), (3, 0, 1000000)], [(0, ([0], [])), (1, ([3, 4], [0])), (2, ([3, 11], [0])), (3, ([2], [])), (4, ([2], []))], [], [], [(4, List.replicate 5 ⟨none, []⟩)]⟩
def rs : List RV := [.tm 2]
theorem comp_ : f16.body.bind (compile prog anno) = some top := by kernel_rfl
theorem rs_ : rvsOf prog f16.results.toList = some rs := by kernel_rfl
theorem fkS {es : List Ent} {ss : List Spe} (h : Fks prog es) (hs : Fsps prog ss) {leak : Bool} {R : List AV → AV → Prop} (k : ∀ args r, R args r → Run (ctx es ss) top rs 16 1 args r ∧ (leak = false → Fr r)) : Fk prog ⟨16, leak, R⟩ := fk_of h hs mix_ (by kernel_rfl : prog.funcs[16]? = some f16) (by kernel_rfl) comp_ rs_ k
theorem fk {es : List Ent} (h : Fks prog es) {leak : Bool} {R : List AV → AV → Prop} (k : ∀ args r, R args r → Run (ctx es) top rs 16 1 args r ∧ (leak = false → Fr r)) : Fk prog ⟨16, leak, R⟩ := fkS (ss := []) h trivial k
end C.group.Derived
-- semigroup/semigroupref16.IsGroup: semigroup/semigroupref16/ref.go .. 22
namespace C.ref16.IsGroup
def l0 : AC := .seq (.reg [⟨some 15, none, .bin .lss (.r 14) (.r 13)⟩] ([0, 13, 14, 15], [])) (.seq (.cond (.r 15) .skip (.exit 0 ([], []))) (.seq (.block 1 (.seq (.reg [⟨some 16, none, .mov (.r 14)⟩, ⟨some 3, none, .mov (.r 16)⟩] ([0, 3, 13, 14], [])) (.seq (.reg [⟨some 17, none, .mov (.r 0)⟩, ⟨some 18, none, .mov (.r 3)⟩, ⟨some 19, none, .call F_ref16_Inverse [(.r 17), (.r 18)]⟩, ⟨some 20, none, .bin .lss (.r 19) (.k (.int .i64 0))⟩] ([0, 13, 14, 20], [])) (.cond (.r 20) (.seq (.reg [⟨some 2, none, .mov (.k (.bool false))⟩] ([2], [])) .ret) .skip)))) (.reg [⟨some 21, none, .bin .add (.r 14) (.k (.int .i64 1))⟩, ⟨some 14, none, .mov (.r 21)⟩] ([0, 13, 14], []))))
abbrev L0 : AC := .loop l0 ([0, 13, 14], [])
def top : AC := .seq (.reg [⟨some 2, none, .mov (.k (.bool false))⟩] ([0], [])) (.seq (.seq (.reg [⟨some 4, none, .mov (.r 0)⟩, ⟨some 5, none, .call F_ref14_Valid [(.r 4)]⟩, ⟨some 6, none, .un .not (.r 5)⟩, ⟨some 7, none, .mov (.r 6)⟩, ⟨some 8, (some (7, false)), .mov (.r 0)⟩, ⟨some 9, (some (7, false)), .call F_ref14_Identity [(.r 8)]⟩, ⟨some 10, (some (7, false)), .bin .lss (.r 9) (.k (.int .i64 0))⟩, ⟨some 11, none, .pick (.r 7) (.k (.bool true)) (.r 10)⟩] ([0, 11], [])) (.cond (.r 11) (.seq (.reg [⟨some 2, none, .mov (.k (.bool false))⟩] ([2], [])) .ret) .skip)) (.seq (.seq (.reg [⟨some 12, none, .mov (.r 0)⟩, ⟨some 13, none, .len (.r 12)⟩, ⟨some 14, none, .mov (.k (.int .i64 0))⟩] ([0, 13, 14], [])) (.block 0 (.loop l0 ([0, 13, 14], [])))) (.seq (.reg [⟨some 2, none, .mov (.k (.bool true))⟩] ([2], [])) .ret)))
def anno : Anno := ⟨0, [], [(0, ([0], [])), (1, ([0, 11], [])), (2, ([2], [])), (3, ([0, 13, 14], [])), (4, ([0, 13, 14, 15], [])), (5, ([0, 3, 13, 14], [])), (6, ([0, 13, 14, 20], [])), (7, ([2], [])), (8, ([0, 13, 14], [])), (9, ([2], []))], [(0, ([0, 13, 14], []))], [(0, ([], [])), (1, ([0, 13, 14], []))], []⟩
def rs : List RV := [.tm 2]
theorem comp_ : f17.body.bind (compile prog anno) = some top := by kernel_rfl
theorem rs_ : rvsOf prog f17.results.toList = some rs := by kernel_rfl
theorem fkS {es : List Ent} {ss : List Spe} (h : Fks prog es) (hs : Fsps prog ss) {leak : Bool} {R : List AV → AV → Prop} (k : ∀ args r, R args r → Run (ctx es ss) top rs 22 0 args r ∧ (leak = false → Fr r)) : Fk prog ⟨17, leak, R⟩ := fk_of h hs mix_ (by kernel_rfl : prog.funcs[17]? = some f17) (by kernel_rfl) comp_ rs_ k
theorem fq {es : List Ent} (h : Fqs prog es) {leak : Bool} {R : List AV → AV → Prop} (hq : quietX (ctxQ es) top = true) (k : ∀ args r, R args r → Run (ctxQ es) top rs 22 0 args r ∧ (leak = false → Fr r)) : Fq prog ⟨17, leak, R⟩ := fq_of h mix_ (by kernel_rfl : prog.funcs[17]? = some f17) (by kernel_rfl) comp_ rs_ hq k
theorem fk {es : List Ent} (h : Fks prog es) {leak : Bool} {R : List AV → AV → Prop} (k : ∀ args r, R args r → Run (ctx es) top rs 22 0 args r ∧ (leak = false → Fr r)) : Fk prog ⟨17, leak, R⟩ := fkS (ss := []) h trivial k
end C.ref16.IsGroup
-- semigroup/semigroupref03.Same: semigroup/semigroupref03/ref.go .. 41
namespace C.ref03.Same
def l0 : AC := .seq (.reg [⟨some 14, none, .bin .lss (.r 13) (.r 12)⟩] ([0, 1, 12, 13, 14], [])) (.seq (.cond (.r 14) .skip (.exit 0 ([], []))) (.seq (.block 1 (.seq (.reg [⟨some 15, none, .mov (.r 13)⟩, ⟨some 5, none, .mov (.r 15)⟩] ([0, 1, 5, 12, 13], [])) (.seq (.dreg [⟨some 16, none, .mov (.r 0)⟩, ⟨some 17, none, .mov (.r 5)⟩, ⟨some 18, none, .idxA 1 (.r 16) (.r 17)⟩, ⟨some 19, none, .load 1 false (.r 18)⟩, ⟨some 20, none, .mov (.r 1)⟩, ⟨some 21, none, .mov (.r 5)⟩, ⟨some 22, none, .idxA 1 (.r 20) (.r 21)⟩, ⟨some 23, none, .load 1 false (.r 22)⟩, ⟨some 24, none, .bin .neq (.r 19) (.r 23)⟩] (List.replicate 9 ⟨none, []⟩) ([0, 1, 12, 13, 24], [])) (.cond (.r 24) (.seq (.reg [⟨some 4, none, .mov (.k (.bool false))⟩] ([4], [])) .ret) .skip)))) (.reg [⟨some 25, none, .bin .add (.r 13) (.k (.int .i64 1))⟩, ⟨some 13, none, .mov (.r 25)⟩] ([0, 1, 12, 13], []))))
abbrev L0 : AC := .loop l0 ([0, 1, 12, 13], [])
def top : AC := .seq (.reg [⟨some 4, none, .mov (.k (.bool false))⟩] ([0, 1], [])) (.seq (.seq (.reg [⟨some 6, none, .mov (.r 0)⟩, ⟨some 7, none, .len (.r 6)⟩, ⟨some 8, none, .mov (.r 1)⟩, ⟨some 9, none, .len (.r 8)⟩, ⟨some 10, none, .bin .neq (.r 7) (.r 9)⟩] ([0, 1, 10], [])) (.cond (.r 10) (.seq (.reg [⟨some 4, none, .mov (.k (.bool false))⟩] ([4], [])) .ret) .skip)) (.seq (.seq (.reg [⟨some 11, none, .mov (.r 0)⟩, ⟨some 12, none, .len (.r 11)⟩, ⟨some 13, none, .mov (.k (.int .i64 0))⟩] ([0, 1, 12, 13], [])) (.block 0 (.loop l0 ([0, 1, 12, 13], [])))) (.seq (.reg [⟨some 4, none, .mov (.k (.bool true))⟩] ([4], [])) .ret)))
def anno : Anno := ⟨0, [], [(0, ([0, 1], [])), (1, ([0, 1, 10], [])), (2, ([4], [])), (3, ([0, 1, 12, 13], [])), (4, ([0, 1, 12, 13, 14], [])), (5, ([0, 1, 5, 12, 13], [])), (6, ([0, 1, 12, 13, 24], [])), (7, ([4], [])), (8, ([0, 1, 12, 13], [])), (9, ([4], []))], [(0, ([0, 1, 12, 13], []))], [(0, ([], [])), (1, ([0, 1, 12, 13], []))], [(6, List.replicate 9 ⟨none, []⟩)]⟩
def rs : List RV := [.tm 4]
theorem comp_ : f18.body.bind (compile prog anno) = some top := by kernel_rfl
theorem rs_ : rvsOf prog f18.results.toList = some rs := by kernel_rfl
theorem fkS {es : List Ent} {ss : List Spe} (h : Fks prog es) (hs : Fsps prog ss) {leak : Bool} {R : List AV → AV → Prop} (k : ∀ args r, R args r → Run (ctx es ss) top rs 26 0 args r ∧ (leak = false → Fr r)) : Fk prog ⟨18, leak, R⟩ := fk_of h hs mix_ (by kernel_rfl : prog.funcs[18]? = some f18) (by kernel_rfl) comp_ rs_ k
theorem fq {es : List Ent} (h : Fqs prog es) {leak : Bool} {R : List AV → AV → Prop} (hq : quietX (ctxQ es) top = true) (k : ∀ args r, R args r → Run (ctxQ es) top rs 26 0 args r ∧ (leak = false → Fr r)) : Fq prog ⟨18, leak, R⟩ := fq_of h mix_ (by kernel_rfl : prog.funcs[18]? = some f18) (by kernel_rfl) comp_ rs_ hq k
theorem fk {es : List Ent} (h : Fks prog es) {leak : Bool} {R : List AV → AV → Prop} (k : ∀ args r, R args r → Run (ctx es) top rs 26 0 args r ∧ (leak = false → Fr r)) : Fk prog ⟨18, leak, R⟩ := fkS (ss := []) h trivial k
end C.ref03.Same
-- semigroup/semigroupref16.Derived: semigroup/semigroupref16/ref.go .. 151
namespace C.ref16.Derived
def l2 : AC := .seq (.reg [⟨some 19, none, .bin .lss (.r 18) (.r 17)⟩] ([0, 1, 5, 7, 10, 11, 12, 16, 17, 18, 19], [0])) (.seq (.cond (.r 19) .skip (.exit 2 ([0, 1, 5, 10, 11, 12], [0]))) (.seq (.block 3 (.seq (.reg [⟨some 20, none, .idxA 1 (.r 16) (.r 18)⟩, ⟨some 21, none, .load 1 false (.r 20)⟩, ⟨some 9, none, .mov (.r 21)⟩] ([0, 1, 5, 7, 9, 10, 11, 12, 16, 17, 18], [0])) (.dreg [⟨some 22, none, .mov (.r 5)⟩, ⟨some 23, none, .mov (.r 0)⟩, ⟨some 24, none, .mov (.r 0)⟩, ⟨some 25, none, .mov (.r 7)⟩, ⟨some 26, none, .idxA 1 (.r 24) (.r 25)⟩, ⟨some 27, none, .load 1 false (.r 26)⟩, ⟨some 28, none, .mov (.r 9)⟩, ⟨some 29, none, .idxA 1 (.r 27) (.r 28)⟩, ⟨some 30, none, .load 1 false (.r 29)⟩, ⟨some 31, none, .idxA 1 (.r 23) (.r 30)⟩, ⟨some 32, none, .load 1 false (.r 31)⟩, ⟨some 33, none, .mov (.r 0)⟩, ⟨some 34, none, .mov (.r 0)⟩, ⟨some 35, none, .mov (.r 7)⟩, ⟨some 36, none, .call F_ref16_Inverse [(.r 34), (.r 35)]⟩, ⟨some 37, none, .idxA 1 (.r 33) (.r 36)⟩, ⟨some 38, none, .load 1 false (.r 37)⟩, ⟨some 39, none, .mov (.r 0)⟩, ⟨some 40, none, .mov (.r 9)⟩, ⟨some 41, none, .call F_ref16_Inverse [(.r 39), (.r 40)]⟩, ⟨some 42, none, .idxA 1 (.r 38) (.r 41)⟩, ⟨some 43, none, .load 1 false (.r 42)⟩, ⟨some 44, none, .idxA 1 (.r 32) (.r 43)⟩, ⟨some 45, none, .load 1 false (.r 44)⟩, ⟨some 46, none, .sl 1 Tint 1 1 [.int .i64 0] [(0, (.r 45))]⟩, ⟨some 47, none, .app 1000000 Tint 1 8 (.r 22) (.r 46)⟩, ⟨some 5, none, .mov (.r 47)⟩] ([⟨some [], []⟩, ⟨some [], []⟩, ⟨some [], []⟩, ⟨some [], []⟩, ⟨some [], []⟩, ⟨some [], []⟩, ⟨some [], []⟩, ⟨some [], []⟩, ⟨some [], []⟩, ⟨some [], []⟩, ⟨some [], []⟩, ⟨some [], []⟩, ⟨some [], []⟩, ⟨some [], []⟩, ⟨some [], []⟩, ⟨some [], []⟩, ⟨some [], []⟩, ⟨some [], []⟩, ⟨some [], []⟩, ⟨some [], []⟩, ⟨some [], []⟩, ⟨some [], []⟩, ⟨some [], []⟩, ⟨some [], []⟩, ⟨some [1], [1]⟩, ⟨some [0, 1], [0]⟩, ⟨some [], []⟩]) ([0, 1, 5, 7, 10, 11, 12, 16, 17, 18], [0])))) (.reg [⟨some 48, none, .bin .add (.r 18) (.k (.int .i64 1))⟩, ⟨some 18, none, .mov (.r 48)⟩] ([0, 1, 5, 7, 10, 11, 12, 16, 17, 18], [0]))))
abbrev L2 : AC := .loop l2 ([0, 1, 5, 7, 10, 11, 12, 16, 17, 18], [0])
def l0 : AC := .seq (.reg [⟨some 13, none, .bin .lss (.r 12) (.r 11)⟩] ([0, 1, 5, 10, 11, 12, 13], [0])) (.seq (.cond (.r 13) .skip (.exit 0 ([0, 5], [0]))) (.seq (.block 1 (.seq (.reg [⟨some 14, none, .idxA 1 (.r 10) (.r 12)⟩, ⟨some 15, none, .load 1 false (.r 14)⟩, ⟨some 7, none, .mov (.r 15)⟩] ([0, 1, 5, 7, 10, 11, 12], [0])) (.seq (.reg [⟨some 16, none, .mov (.r 1)⟩, ⟨some 17, none, .len (.r 16)⟩, ⟨some 18, none, .mov (.k (.int .i64 0))⟩] ([0, 1, 5, 7, 10, 11, 12, 16, 17, 18], [0])) (.block 2 (.loop l2 ([0, 1, 5, 7, 10, 11, 12, 16, 17, 18], [0])))))) (.reg [⟨some 49, none, .bin .add (.r 12) (.k (.int .i64 1))⟩, ⟨some 12, none, .mov (.r 49)⟩] ([0, 1, 5, 10, 11, 12], [0]))))
abbrev L0 : AC := .loop l0 ([0, 1, 5, 10, 11, 12], [0])
def top : AC := .seq (.reg [⟨some 4, none, .nilf true 1⟩] ([0, 1], [])) (.seq (.reg [⟨some 5, none, .nilr 0 Tint 1⟩] ([0, 1, 5], [0])) (.seq (.seq (.reg [⟨some 10, none, .mov (.r 1)⟩, ⟨some 11, none, .len (.r 10)⟩, ⟨some 12, none, .mov (.k (.int .i64 0))⟩] ([0, 1, 5, 10, 11, 12], [0])) (.block 0 (.loop l0 ([0, 1, 5, 10, 11, 12], [0])))) (.seq (.reg [⟨some 50, none, .mov (.r 0)⟩, ⟨some 51, none, .mov (.r 5)⟩, ⟨some 52, none, .call F_ref14_Generated [(.r 50), (.r 51)]⟩, ⟨some 4, none, .mov (.r 52)⟩] ([4], [])) .ret)))
def anno : Anno := ⟨2, [(0, 0, 1000000), (1, 0, 0), (8, 24, 1)], [(0, ([0, 1], [])), (1, ([0, 1, 5], [0])), (2, ([0, 1, 5, 10, 11, 12], [0])), (3, ([0, 1, 5, 10, 11, 12, 13], [0])), (4, ([0, 1, 5, 7, 10, 11, 12], [0])), (5, ([0, 1, 5, 7, 10, 11, 12, 16, 17, 18], [0])), (6, ([0, 1, 5, 7, 10, 11, 12, 16, 17, 18, 19], [0])), (7, ([0, 1, 5, 7, 9, 10, 11, 12, 16, 17, 18], [0])), (8, ([0, 1, 5, 7, 10, 11, 12, 16, 17, 18], [0])), (9, ([0, 1, 5, 7, 10, 11, 12, 16, 17, 18], [0])), (10, ([0, 1, 5, 10, 11, 12], [0])), (11, ([4], []))], [(0, ([0, 1, 5, 10, 11, 12], [0])), (2, ([0, 1, 5, 7, 10, 11, 12, 16, 17, 18], [0]))], [(0, ([0, 5], [0])), (1, ([0, 1, 5, 10, 11, 12], [0])), (2, ([0, 1, 5, 10, 11, 12], [0])), (3, ([0, 1, 5, 7, 10, 11, 12, 16, 17, 18], [0]))], [(8, [⟨some [], []⟩, ⟨some [], []⟩, ⟨some [], []⟩, ⟨some [], []⟩, ⟨some [], []⟩, ⟨some [], []⟩, ⟨some [], []⟩, ⟨some [], []⟩, ⟨some [], []⟩, ⟨some [], []⟩, ⟨some [], []⟩, ⟨some [], []⟩, ⟨some [], []⟩, ⟨some [], []⟩, ⟨some [], []⟩, ⟨some [], []⟩, ⟨some [], []⟩, ⟨some [], []⟩, ⟨some [], []⟩, ⟨some [], []⟩, ⟨some [], []⟩, ⟨some [], []⟩, ⟨some [], []⟩, ⟨some [], []⟩, ⟨some [1], [1]⟩, ⟨some [0, 1], [0]⟩, ⟨some [], []⟩])]⟩
def rs : List RV := [.tm 4]
theorem comp_ : f19.body.bind (compile prog anno) = some top := by kernel_rfl
theorem rs_ : rvsOf prog f19.results.toList = some rs := by kernel_rfl
theorem fkS {es : List Ent} {ss : List Spe} (h : Fks prog es) (hs : Fsps prog ss) {leak : Bool} {R : List AV → AV → Prop} (k : ∀ args r, R args r → Run (ctx es ss) top rs 53 2 args r ∧ (leak = false → Fr r)) : Fk prog ⟨19, leak, R⟩ := fk_of h hs mix_ (by kernel_rfl : prog.funcs[19]? = some f19) (by kernel_rfl) comp_ rs_ k
theorem fk {es : List Ent} (h : Fks prog es) {leak : Bool} {R : List AV → AV → Prop} (k : ∀ args r, R args r → Run (ctx es) top rs 53 2 args r ∧ (leak = false → Fr r)) : Fk prog ⟨19, leak, R⟩ := fkS (ss := []) h trivial k
end C.ref16.Derived
-- semigroup/semigroupref16.All: semigroup/semigroupref16/ref.go .. 154
namespace C.ref16.All
def top : AC := .seq (.reg [⟨some 2, none, .nilf true 1⟩] ([0], [])) (.seq (.reg [⟨some 3, none, .mov (.r 0)⟩, ⟨some 4, none, .len (.r 3)⟩, ⟨some 5, none, .call F_ref03_Discrete [(.r 4)]⟩, ⟨some 2, none, .mov (.r 5)⟩] ([2], [])) .ret)
def anno : Anno := ⟨0, [(0, 0, 1000000)], [(0, ([0], [])), (1, ([2], []))], [], [], []⟩
def rs : List RV := [.tm 2]
theorem comp_ : f20.body.bind (compile prog anno) = some top := by kernel_rfl
theorem rs_ : rvsOf prog f20.results.toList = some rs := by kernel_rfl
theorem fkS {es : List Ent} {ss : List Spe} (h : Fks prog es) (hs : Fsps prog ss) {leak : Bool} {R : List AV → AV → Prop} (k : ∀ args r, R args r → Run (ctx es ss) top rs 6 0 args r ∧ (leak = false → Fr r)) : Fk prog ⟨20, leak, R⟩ := fk_of h hs mix_ (by kernel_rfl : prog.funcs[20]? = some f20) (by kernel_rfl) comp_ rs_ k
theorem fq {es : List Ent} (h : Fqs prog es) {leak : Bool} {R : List AV → AV → Prop} (hq : quietX (ctxQ es) top = true) (k : ∀ args r, R args r → Run (ctxQ es) top rs 6 0 args r ∧ (leak = false → Fr r)) : Fq prog ⟨20, leak, R⟩ := fq_of h mix_ (by kernel_rfl : prog.funcs[20]? = some f20) (by kernel_rfl) comp_ rs_ hq k
theorem fk {es : List Ent} (h : Fks prog es) {leak : Bool} {R : List AV → AV → Prop} (k : ∀ args r, R args r → Run (ctx es) top rs 6 0 args r ∧ (leak = false → Fr r)) : Fk prog ⟨20, leak, R⟩ := fkS (ss := []) h trivial k
end C.ref16.All
-- semigroup/semigroupref14.In: semigroup/semigroupref14/ref.go .. 65
namespace C.ref14.In
def l0 : AC := .seq (.reg [⟨some 10, none, .bin .lss (.r 9) (.r 8)⟩] ([0, 7, 8, 9, 10], [])) (.seq (.cond (.r 10) .skip (.exit 0 ([], []))) (.seq (.block 1 (.seq (.reg [⟨some 11, none, .idxA 1 (.r 7) (.r 9)⟩, ⟨some 12, none, .load 1 false (.r 11)⟩, ⟨some 6, none, .mov (.r 12)⟩] ([0, 6, 7, 8, 9], [])) (.seq (.reg [⟨some 13, none, .mov (.r 6)⟩, ⟨some 14, none, .bin .lss (.r 13) (.k (.int .i64 0))⟩, ⟨some 15, none, .mov (.r 14)⟩, ⟨some 16, (some (15, false)), .mov (.r 6)⟩, ⟨some 17, (some (15, false)), .mov (.r 0)⟩, ⟨some 18, (some (15, false)), .len (.r 17)⟩, ⟨some 19, (some (15, false)), .bin .geq (.r 16) (.r 18)⟩, ⟨some 20, none, .pick (.r 15) (.k (.bool true)) (.r 19)⟩] ([0, 7, 8, 9, 20], [])) (.cond (.r 20) (.seq (.reg [⟨some 4, none, .mov (.k (.bool false))⟩] ([4], [])) .ret) .skip)))) (.reg [⟨some 21, none, .bin .add (.r 9) (.k (.int .i64 1))⟩, ⟨some 9, none, .mov (.r 21)⟩] ([0, 7, 8, 9], []))))
abbrev L0 : AC := .loop l0 ([0, 7, 8, 9], [])
def top : AC := .seq (.reg [⟨some 4, none, .mov (.k (.bool false))⟩] ([0, 1], [])) (.seq (.seq (.reg [⟨some 7, none, .mov (.r 1)⟩, ⟨some 8, none, .len (.r 7)⟩, ⟨some 9, none, .mov (.k (.int .i64 0))⟩] ([0, 7, 8, 9], [])) (.block 0 (.loop l0 ([0, 7, 8, 9], [])))) (.seq (.reg [⟨some 4, none, .mov (.k (.bool true))⟩] ([4], [])) .ret))
def anno : Anno := ⟨0, [], [(0, ([0, 1], [])), (1, ([0, 7, 8, 9], [])), (2, ([0, 7, 8, 9, 10], [])), (3, ([0, 6, 7, 8, 9], [])), (4, ([0, 7, 8, 9, 20], [])), (5, ([4], [])), (6, ([0, 7, 8, 9], [])), (7, ([4], []))], [(0, ([0, 7, 8, 9], []))], [(0, ([], [])), (1, ([0, 7, 8, 9], []))], []⟩
def rs : List RV := [.tm 4]
theorem comp_ : f21.body.bind (compile prog anno) = some top := by kernel_rfl
theorem rs_ : rvsOf prog f21.results.toList = some rs := by kernel_rfl
theorem fkS {es : List Ent} {ss : List Spe} (h : Fks prog es) (hs : Fsps prog ss) {leak : Bool} {R : List AV → AV → Prop} (k : ∀ args r, R args r → Run (ctx es ss) top rs 22 0 args r ∧ (leak = false → Fr r)) : Fk prog ⟨21, leak, R⟩ := fk_of h hs mix_ (by kernel_rfl : prog.funcs[21]? = some f21) (by kernel_rfl) comp_ rs_ k
theorem fq {es : List Ent} (h : Fqs prog es) {leak : Bool} {R : List AV → AV → Prop} (hq : quietX (ctxQ es) top = true) (k : ∀ args r, R args r → Run (ctxQ es) top rs 22 0 args r ∧ (leak = false → Fr r)) : Fq prog ⟨21, leak, R⟩ := fq_of h mix_ (by kernel_rfl : prog.funcs[21]? = some f21) (by kernel_rfl) comp_ rs_ hq k
theorem fk {es : List Ent} (h : Fks prog es) {leak : Bool} {R : List AV → AV → Prop} (k : ∀ args r, R args r → Run (ctx es) top rs 22 0 args r ∧ (leak = false → Fr r)) : Fk prog ⟨21, leak, R⟩ := fkS (ss := []) h trivial k
end C.ref14.In
-- semigroup/semigroupref16.Closure: semigroup/semigroupref16/ref.go .. 84
namespace C.ref16.Closure
def l2 : AC := .seq (.reg [⟨some 24, none, .bin .lss (.r 23) (.r 22)⟩] ([0, 1, 5, 6, 7, 14, 15, 21, 22, 23, 24], [0])) (.seq (.cond (.r 24) .skip (.exit 2 ([0, 1, 5, 14, 15], [0]))) (.seq (.block 3 (.seq (.reg [⟨some 25, none, .idxA 1 (.r 21) (.r 23)⟩, ⟨some 26, none, .load 1 false (.r 25)⟩, ⟨some 9, none, .mov (.r 26)⟩] ([0, 1, 5, 6, 7, 9, 14, 15, 21, 22, 23], [0])) (.reg [⟨some 27, none, .mov (.r 5)⟩, ⟨some 28, none, .mov (.r 0)⟩, ⟨some 29, none, .mov (.r 0)⟩, ⟨some 30, none, .mov (.r 6)⟩, ⟨some 31, none, .idxA 1 (.r 29) (.r 30)⟩, ⟨some 32, none, .load 1 false (.r 31)⟩, ⟨some 33, none, .mov (.r 9)⟩, ⟨some 34, none, .idxA 1 (.r 32) (.r 33)⟩, ⟨some 35, none, .load 1 false (.r 34)⟩, ⟨some 36, none, .idxA 1 (.r 28) (.r 35)⟩, ⟨some 37, none, .load 1 false (.r 36)⟩, ⟨some 38, none, .mov (.r 7)⟩, ⟨some 39, none, .idxA 1 (.r 37) (.r 38)⟩, ⟨some 40, none, .load 1 false (.r 39)⟩, ⟨some 41, none, .sl 1 Tint 1 1 [.int .i64 0] [(0, (.r 40))]⟩, ⟨some 42, none, .app 1000000 Tint 1 8 (.r 27) (.r 41)⟩, ⟨some 5, none, .mov (.r 42)⟩] ([0, 1, 5, 6, 7, 14, 15, 21, 22, 23], [0])))) (.reg [⟨some 43, none, .bin .add (.r 23) (.k (.int .i64 1))⟩, ⟨some 23, none, .mov (.r 43)⟩] ([0, 1, 5, 6, 7, 14, 15, 21, 22, 23], [0]))))
abbrev L2 : AC := .loop l2 ([0, 1, 5, 6, 7, 14, 15, 21, 22, 23], [0])
def l0 : AC := .seq (.reg [⟨some 16, none, .bin .lss (.r 15) (.r 14)⟩] ([0, 1, 5, 14, 15, 16], [0])) (.seq (.cond (.r 16) .skip (.exit 0 ([0, 5], [0]))) (.seq (.block 1 (.seq (.reg [⟨some 17, none, .mov (.r 15)⟩, ⟨some 6, none, .mov (.r 17)⟩] ([0, 1, 5, 6, 14, 15], [0])) (.seq (.reg [⟨some 18, none, .mov (.r 0)⟩, ⟨some 19, none, .mov (.r 6)⟩, ⟨some 20, none, .call F_ref16_Inverse [(.r 18), (.r 19)]⟩, ⟨some 7, none, .mov (.r 20)⟩] ([0, 1, 5, 6, 7, 14, 15], [0])) (.seq (.reg [⟨some 21, none, .mov (.r 1)⟩, ⟨some 22, none, .len (.r 21)⟩, ⟨some 23, none, .mov (.k (.int .i64 0))⟩] ([0, 1, 5, 6, 7, 14, 15, 21, 22, 23], [0])) (.block 2 (.loop l2 ([0, 1, 5, 6, 7, 14, 15, 21, 22, 23], [0]))))))) (.reg [⟨some 44, none, .bin .add (.r 15) (.k (.int .i64 1))⟩, ⟨some 15, none, .mov (.r 44)⟩] ([0, 1, 5, 14, 15], [0]))))
abbrev L0 : AC := .loop l0 ([0, 1, 5, 14, 15], [0])
def top : AC := .seq (.reg [⟨some 4, none, .nilf true 1⟩] ([0, 1], [])) (.seq (.reg [⟨some 10, none, .mov (.r 0)⟩, ⟨some 11, none, .call F_ref14_Identity [(.r 10)]⟩, ⟨some 12, none, .sl 0 Tint 1 1 [.int .i64 0] [(0, (.r 11))]⟩, ⟨some 5, none, .mov (.r 12)⟩] ([0, 1, 5], [0])) (.seq (.seq (.reg [⟨some 13, none, .mov (.r 0)⟩, ⟨some 14, none, .len (.r 13)⟩, ⟨some 15, none, .mov (.k (.int .i64 0))⟩] ([0, 1, 5, 14, 15], [0])) (.block 0 (.loop l0 ([0, 1, 5, 14, 15], [0])))) (.seq (.reg [⟨some 45, none, .mov (.r 0)⟩, ⟨some 46, none, .mov (.r 5)⟩, ⟨some 47, none, .call F_ref14_Generated [(.r 45), (.r 46)]⟩, ⟨some 4, none, .mov (.r 47)⟩] ([4], [])) .ret)))
def anno : Anno := ⟨2, [(0, 0, 1000000), (1, 2, 0), (9, 14, 1)], [(0, ([0, 1], [])), (1, ([0, 1, 5], [0])), (2, ([0, 1, 5, 14, 15], [0])), (3, ([0, 1, 5, 14, 15, 16], [0])), (4, ([0, 1, 5, 6, 14, 15], [0])), (5, ([0, 1, 5, 6, 7, 14, 15], [0])), (6, ([0, 1, 5, 6, 7, 14, 15, 21, 22, 23], [0])), (7, ([0, 1, 5, 6, 7, 14, 15, 21, 22, 23, 24], [0])), (8, ([0, 1, 5, 6, 7, 9, 14, 15, 21, 22, 23], [0])), (9, ([0, 1, 5, 6, 7, 14, 15, 21, 22, 23], [0])), (10, ([0, 1, 5, 6, 7, 14, 15, 21, 22, 23], [0])), (11, ([0, 1, 5, 14, 15], [0])), (12, ([4], []))], [(0, ([0, 1, 5, 14, 15], [0])), (2, ([0, 1, 5, 6, 7, 14, 15, 21, 22, 23], [0]))], [(0, ([0, 5], [0])), (1, ([0, 1, 5, 14, 15], [0])), (2, ([0, 1, 5, 14, 15], [0])), (3, ([0, 1, 5, 6, 7, 14, 15, 21, 22, 23], [0]))], []⟩
def rs : List RV := [.tm 4]
theorem comp_ : f22.body.bind (compile prog anno) = some top := by kernel_rfl
theorem rs_ : rvsOf prog f22.results.toList = some rs := by kernel_rfl
theorem fkS {es : List Ent} {ss : List Spe} (h : Fks prog es) (hs : Fsps prog ss) {leak : Bool} {R : List AV → AV → Prop} (k : ∀ args r, R args r → Run (ctx es ss) top rs 48 2 args r ∧ (leak = false → Fr r)) : Fk prog ⟨22, leak, R⟩ := fk_of h hs mix_ (by kernel_rfl : prog.funcs[22]? = some f22) (by kernel_rfl) comp_ rs_ k
theorem fk {es : List Ent} (h : Fks prog es) {leak : Bool} {R : List AV → AV → Prop} (k : ∀ args r, R args r → Run (ctx es) top rs 48 2 args r ∧ (leak = false → Fr r)) : Fk prog ⟨22, leak, R⟩ := fkS (ss := []) h trivial k
end C.ref16.Closure
-- semigroup/semigroupref14.Validate: semigroup/semigroupref14/ref.go .. 52
namespace C.ref14.Validate
def top : AC := .seq (.reg [⟨some 2, none, .mov (.k (.int .i64 0))⟩] ([0], [])) (.seq (.reg [⟨some 8, none, .mov (.r 0)⟩, ⟨some 9, none, .call F_ref14_Associative [(.r 8)]⟩, ⟨some 7, none, .mov (.r 9)⟩, ⟨some 10, none, .ext 0 (.r 7)⟩, ⟨some 11, none, .ext 1 (.r 7)⟩, ⟨some 12, none, .ext 2 (.r 7)⟩, ⟨some 13, none, .ext 3 (.r 7)⟩, ⟨some 3, none, .mov (.r 10)⟩, ⟨some 4, none, .mov (.r 11)⟩, ⟨some 5, none, .mov (.r 12)⟩, ⟨some 6, none, .mov (.r 13)⟩] ([6], [])) (.seq (.reg [⟨some 14, none, .mov (.r 6)⟩, ⟨some 2, none, .mov (.r 14)⟩] ([2], [])) .ret))
def anno : Anno := ⟨0, [], [(0, ([0], [])), (1, ([6], [])), (2, ([2], []))], [], [], []⟩
def rs : List RV := [.tm 2]
theorem comp_ : f24.body.bind (compile prog anno) = some top := by kernel_rfl
theorem rs_ : rvsOf prog f24.results.toList = some rs := by kernel_rfl
theorem fkS {es : List Ent} {ss : List Spe} (h : Fks prog es) (hs : Fsps prog ss) {leak : Bool} {R : List AV → AV → Prop} (k : ∀ args r, R args r → Run (ctx es ss) top rs 15 0 args r ∧ (leak = false → Fr r)) : Fk prog ⟨24, leak, R⟩ := fk_of h hs mix_ (by kernel_rfl : prog.funcs[24]? = some f24) (by kernel_rfl) comp_ rs_ k
theorem fq {es : List Ent} (h : Fqs prog es) {leak : Bool} {R : List AV → AV → Prop} (hq : quietX (ctxQ es) top = true) (k : ∀ args r, R args r → Run (ctxQ es) top rs 15 0 args r ∧ (leak = false → Fr r)) : Fq prog ⟨24, leak, R⟩ := fq_of h mix_ (by kernel_rfl : prog.funcs[24]? = some f24) (by kernel_rfl) comp_ rs_ hq k
theorem fk {es : List Ent} (h : Fks prog es) {leak : Bool} {R : List AV → AV → Prop} (k : ∀ args r, R args r → Run (ctx es) top rs 15 0 args r ∧ (leak = false → Fr r)) : Fk prog ⟨24, leak, R⟩ := fkS (ss := []) h trivial k
end C.ref14.Validate
-- semigroup/semigroupref03.SameRows: semigroup/semigroupref03/ref.go .. 54
namespace C.ref03.SameRows
def l0 : AC := .seq (.reg [⟨some 14, none, .bin .lss (.r 13) (.r 12)⟩] ([0, 1, 12, 13, 14], [])) (.seq (.cond (.r 14) .skip (.exit 0 ([], []))) (.seq (.block 1 (.seq (.reg [⟨some 15, none, .mov (.r 13)⟩, ⟨some 5, none, .mov (.r 15)⟩] ([0, 1, 5, 12, 13], [])) (.seq (.dreg [⟨some 16, none, .mov (.r 0)⟩, ⟨some 17, none, .mov (.r 5)⟩, ⟨some 18, none, .idxA 1 (.r 16) (.r 17)⟩, ⟨some 19, none, .load 1 false (.r 18)⟩, ⟨some 20, none, .mov (.r 1)⟩, ⟨some 21, none, .mov (.r 5)⟩, ⟨some 22, none, .idxA 1 (.r 20) (.r 21)⟩, ⟨some 23, none, .load 1 false (.r 22)⟩, ⟨some 24, none, .call F_ref03_Same [(.r 19), (.r 23)]⟩, ⟨some 25, none, .un .not (.r 24)⟩] (List.replicate 10 ⟨none, []⟩) ([0, 1, 12, 13, 25], [])) (.cond (.r 25) (.seq (.reg [⟨some 4, none, .mov (.k (.bool false))⟩] ([4], [])) .ret) .skip)))) (.reg [⟨some 26, none, .bin .add (.r 13) (.k (.int .i64 1))⟩, ⟨some 13, none, .mov (.r 26)⟩] ([0, 1, 12, 13], []))))
abbrev L0 : AC := .loop l0 ([0, 1, 12, 13], [])
def top : AC := .seq (.reg [⟨some 4, none, .mov (.k (.bool false))⟩] ([0, 1], [])) (.seq (.seq (.reg [⟨some 6, none, .mov (.r 0)⟩, ⟨some 7, none, .len (.r 6)⟩, ⟨some 8, none, .mov (.r 1)⟩, ⟨some 9, none, .len (.r 8)⟩, ⟨some 10, none, .bin .neq (.r 7) (.r 9)⟩] ([0, 1, 10], [])) (.cond (.r 10) (.seq (.reg [⟨some 4, none, .mov (.k (.bool false))⟩] ([4], [])) .ret) .skip)) (.seq (.seq (.reg [⟨some 11, none, .mov (.r 0)⟩, ⟨some 12, none, .len (.r 11)⟩, ⟨some 13, none, .mov (.k (.int .i64 0))⟩] ([0, 1, 12, 13], [])) (.block 0 (.loop l0 ([0, 1, 12, 13], [])))) (.seq (.reg [⟨some 4, none, .mov (.k (.bool true))⟩] ([4], [])) .ret)))
def anno : Anno := ⟨0, [], [(0, ([0, 1], [])), (1, ([0, 1, 10], [])), (2, ([4], [])), (3, ([0, 1, 12, 13], [])), (4, ([0, 1, 12, 13, 14], [])), (5, ([0, 1, 5, 12, 13], [])), (6, ([0, 1, 12, 13, 25], [])), (7, ([4], [])), (8, ([0, 1, 12, 13], [])), (9, ([4], []))], [(0, ([0, 1, 12, 13], []))], [(0, ([], [])), (1, ([0, 1, 12, 13], []))], [(6, List.replicate 10 ⟨none, []⟩)]⟩
def rs : List RV := [.tm 4]
theorem comp_ : f25.body.bind (compile prog anno) = some top := by kernel_rfl
theorem rs_ : rvsOf prog f25.results.toList = some rs := by kernel_rfl
theorem fkS {es : List Ent} {ss : List Spe} (h : Fks prog es) (hs : Fsps prog ss) {leak : Bool} {R : List AV → AV → Prop} (k : ∀ args r, R args r → Run (ctx es ss) top rs 27 0 args r ∧ (leak = false → Fr r)) : Fk prog ⟨25, leak, R⟩ := fk_of h hs mix_ (by kernel_rfl : prog.funcs[25]? = some f25) (by kernel_rfl) comp_ rs_ k
theorem fq {es : List Ent} (h : Fqs prog es) {leak : Bool} {R : List AV → AV → Prop} (hq : quietX (ctxQ es) top = true) (k : ∀ args r, R args r → Run (ctxQ es) top rs 27 0 args r ∧ (leak = false → Fr r)) : Fq prog ⟨25, leak, R⟩ := fq_of h mix_ (by kernel_rfl : prog.funcs[25]? = some f25) (by kernel_rfl) comp_ rs_ hq k
theorem fk {es : List Ent} (h : Fks prog es) {leak : Bool} {R : List AV → AV → Prop} (k : ∀ args r, R args r → Run (ctx es) top rs 27 0 args r ∧ (leak = false → Fr r)) : Fk prog ⟨25, leak, R⟩ := fkS (ss := []) h trivial k
end C.ref03.SameRows
-- semigroup/group.IsGroup: semigroup/group/group.go .. 64
namespace C.group.IsGroup
def top : AC := .seq (.reg [⟨some 2, none, .mov (.k (.bool false))⟩] ([0], [])) (.seq (.reg [⟨some 6, none, .mov (.r 0)⟩, ⟨some 7, none, .call F_group_of [(.r 6)]⟩, ⟨some 5, none, .mov (.r 7)⟩, ⟨some 8, none, .ext 0 (.r 5)⟩, ⟨some 9, none, .ext 1 (.r 5)⟩, ⟨some 3, none, .alc 0 Tgroup_group [.slice none 0 0, .int .i64 0, .slice none 0 0]⟩, ⟨none, none, .store 3 (.r 3) (.r 8)⟩, ⟨some 4, none, .mov (.r 9)⟩] ([4], [])) (.seq (.reg [⟨some 10, none, .mov (.r 4)⟩, ⟨some 2, none, .mov (.r 10)⟩] ([2], [])) .ret))
def anno : Anno := ⟨1, [(1, 5, 0)], [(0, ([0], [])), (1, ([4], [])), (2, ([2], []))], [], [], []⟩
def rs : List RV := [.tm 2]
theorem comp_ : f35.body.bind (compile prog anno) = some top := by kernel_rfl
theorem rs_ : rvsOf prog f35.results.toList = some rs := by kernel_rfl
theorem fkS {es : List Ent} {ss : List Spe} (h : Fks prog es) (hs : Fsps prog ss) {leak : Bool} {R : List AV → AV → Prop} (k : ∀ args r, R args r → Run (ctx es ss) top rs 11 1 args r ∧ (leak = false → Fr r)) : Fk prog ⟨35, leak, R⟩ := fk_of h hs mix_ (by kernel_rfl : prog.funcs[35]? = some f35) (by kernel_rfl) comp_ rs_ k
theorem fk {es : List Ent} (h : Fks prog es) {leak : Bool} {R : List AV → AV → Prop} (k : ∀ args r, R args r → Run (ctx es) top rs 11 1 args r ∧ (leak = false → Fr r)) : Fk prog ⟨35, leak, R⟩ := fkS (ss := []) h trivial k
end C.group.IsGroup
-- semigroup/group.Series: semigroup/group/group.go .. 414
namespace C.group.Series
def l2 : AC := .seq (.reg [⟨some 32, none, .bin .lss (.r 31) (.r 30)⟩] ([3, 5, 6, 7, 29, 30, 31, 32], [0, 1, 2, 3, 5])) (.seq (.cond (.r 32) .skip (.exit 2 ([3, 6, 7], [0, 1, 2, 3, 5]))) (.seq (.block 3 (.seq (.reg [⟨some 33, none, .idxA 1 (.r 29) (.r 31)⟩, ⟨some 34, none, .load 1 false (.r 33)⟩, ⟨some 9, none, .mov (.r 34)⟩] ([3, 5, 6, 7, 9, 29, 30, 31], [0, 1, 2, 3, 5])) (.reg [⟨some 35, none, .mov (.r 7)⟩, ⟨some 36, none, .mov (.r 5)⟩, ⟨some 37, none, .mov (.r 9)⟩, ⟨some 38, none, .idxA 1 (.r 36) (.r 37)⟩, ⟨some 39, none, .load 1 false (.r 38)⟩, ⟨some 40, none, .sl 4 Tint 1 1 [.int .i64 0] [(0, (.r 39))]⟩, ⟨some 41, none, .app 1000000 Tint 1 8 (.r 35) (.r 40)⟩, ⟨some 7, none, .mov (.r 41)⟩] ([3, 5, 6, 7, 29, 30, 31], [0, 1, 2, 3, 5])))) (.reg [⟨some 42, none, .bin .add (.r 31) (.k (.int .i64 1))⟩, ⟨some 31, none, .mov (.r 42)⟩] ([3, 5, 6, 7, 29, 30, 31], [0, 1, 2, 3, 5]))))
abbrev L2 : AC := .loop l2 ([3, 5, 6, 7, 29, 30, 31], [0, 1, 2, 3, 5])
def l0 : AC := .seq (.seq (.reg [⟨some 23, none, .mov (.r 5)⟩, ⟨some 24, none, .len (.r 23)⟩, ⟨some 25, none, .bin .gtr (.r 24) (.k (.int .i64 1))⟩] ([3, 5, 6, 25], [0, 1, 2, 3, 5])) (.cond (.r 25) .skip (.exit 0 ([6], [1, 2, 5])))) (.block 1 (.seq (.reg [⟨some 7, none, .nilr 3 Tint 1⟩] ([3, 5, 6, 7], [0, 1, 2, 3, 5])) (.seq (.seq (.reg [⟨some 26, none, .load 3 true (.r 3)⟩, ⟨some 27, none, .mov (.r 5)⟩, ⟨some 28, none, .call F_group_group_within [(.r 26), (.r 27)]⟩, ⟨some 29, none, .call F_group_group_maximal [(.r 28)]⟩, ⟨some 30, none, .len (.r 29)⟩, ⟨some 31, none, .mov (.k (.int .i64 0))⟩] ([3, 5, 6, 7, 29, 30, 31], [0, 1, 2, 3, 5])) (.block 2 (.loop l2 ([3, 5, 6, 7, 29, 30, 31], [0, 1, 2, 3, 5])))) (.seq (.reg [⟨some 43, none, .mov (.r 7)⟩, ⟨some 5, none, .mov (.r 43)⟩] ([3, 5, 6], [0, 1, 2, 3, 5])) (.reg [⟨some 44, none, .mov (.r 6)⟩, ⟨some 45, none, .sl 5 Tint 1 0 [.int .i64 0] []⟩, ⟨some 46, none, .mov (.r 5)⟩, ⟨some 47, none, .app 1000000 Tint 1 8 (.r 45) (.r 46)⟩, ⟨some 48, none, .sl 6 TSint 1 1 [.slice none 0 0] [(0, (.r 47))]⟩, ⟨some 49, none, .app 1000000 TSint 1 24 (.r 44) (.r 48)⟩, ⟨some 6, none, .mov (.r 49)⟩] ([3, 5, 6], [0, 1, 2, 3, 5]))))))
abbrev L0 : AC := .loop l0 ([3, 5, 6], [0, 1, 2, 3, 5])
def top : AC := .seq (.reg [⟨some 2, none, .nilf true 1⟩] ([0], [])) (.seq (.reg [⟨some 11, none, .mov (.r 0)⟩, ⟨some 12, none, .call F_group_of [(.r 11)]⟩, ⟨some 10, none, .mov (.r 12)⟩, ⟨some 13, none, .ext 0 (.r 10)⟩, ⟨some 14, none, .ext 1 (.r 10)⟩, ⟨some 3, none, .alc 0 Tgroup_group [.slice none 0 0, .int .i64 0, .slice none 0 0]⟩, ⟨none, none, .store 3 (.r 3) (.r 13)⟩, ⟨some 4, none, .mov (.r 14)⟩] ([3, 4], [0, 1, 5])) (.seq (.seq (.reg [⟨some 15, none, .mov (.r 4)⟩, ⟨some 16, none, .un .not (.r 15)⟩] ([3, 16], [0, 1, 5])) (.cond (.r 16) (.seq (.reg [⟨some 2, none, .nilf true 1⟩] ([2], [1, 2, 5])) .ret) .skip)) (.seq (.reg [⟨some 17, none, .load 3 true (.r 3)⟩, ⟨some 18, none, .call F_group_group_all [(.r 17)]⟩, ⟨some 5, none, .mov (.r 18)⟩] ([3, 5], [0, 1, 3, 5])) (.seq (.reg [⟨some 19, none, .sl 1 Tint 1 0 [.int .i64 0] []⟩, ⟨some 20, none, .mov (.r 5)⟩, ⟨some 21, none, .app 1000000 Tint 1 8 (.r 19) (.r 20)⟩, ⟨some 22, none, .sl 2 TSint 1 1 [.slice none 0 0] [(0, (.r 21))]⟩, ⟨some 6, none, .mov (.r 22)⟩] ([3, 5, 6], [0, 1, 2, 3, 5])) (.seq (.block 0 (.loop l0 ([3, 5, 6], [0, 1, 2, 3, 5]))) (.seq (.reg [⟨some 50, none, .mov (.r 6)⟩, ⟨some 2, none, .mov (.r 50)⟩] ([2], [1, 2, 5])) .ret))))))
def anno : Anno := ⟨7, [(0, 0, 1000000), (1, 5, 0), (3, 0, 1000000), (5, 0, 1), (5, 3, 2), (7, 0, 3), (11, 5, 4), (14, 1, 5), (14, 4, 6)], [(0, ([0], [])), (1, ([3, 4], [0, 1, 5])), (2, ([3, 16], [0, 1, 5])), (3, ([2], [1, 2, 5])), (4, ([3, 5], [0, 1, 3, 5])), (5, ([3, 5, 6], [0, 1, 2, 3, 5])), (6, ([3, 5, 6, 25], [0, 1, 2, 3, 5])), (7, ([3, 5, 6, 7], [0, 1, 2, 3, 5])), (8, ([3, 5, 6, 7, 29, 30, 31], [0, 1, 2, 3, 5])), (9, ([3, 5, 6, 7, 29, 30, 31, 32], [0, 1, 2, 3, 5])), (10, ([3, 5, 6, 7, 9, 29, 30, 31], [0, 1, 2, 3, 5])), (11, ([3, 5, 6, 7, 29, 30, 31], [0, 1, 2, 3, 5])), (12, ([3, 5, 6, 7, 29, 30, 31], [0, 1, 2, 3, 5])), (13, ([3, 5, 6], [0, 1, 2, 3, 5])), (14, ([3, 5, 6], [0, 1, 2, 3, 5])), (15, ([2], [1, 2, 5]))], [(0, ([3, 5, 6], [0, 1, 2, 3, 5])), (2, ([3, 5, 6, 7, 29, 30, 31], [0, 1, 2, 3, 5]))], [(0, ([6], [1, 2, 5])), (1, ([3, 5, 6], [0, 1, 2, 3, 5])), (2, ([3, 6, 7], [0, 1, 2, 3, 5])), (3, ([3, 5, 6, 7, 29, 30, 31], [0, 1, 2, 3, 5]))], []⟩
def rs : List RV := [.tm 2]
theorem comp_ : f36.body.bind (compile prog anno) = some top := by kernel_rfl
theorem rs_ : rvsOf prog f36.results.toList = some rs := by kernel_rfl
theorem fkS {es : List Ent} {ss : List Spe} (h : Fks prog es) (hs : Fsps prog ss) {leak : Bool} {R : List AV → AV → Prop} (k : ∀ args r, R args r → Run (ctx es ss) top rs 51 7 args r ∧ (leak = false → Fr r)) : Fk prog ⟨36, leak, R⟩ := fk_of h hs mix_ (by kernel_rfl : prog.funcs[36]? = some f36) (by kernel_rfl) comp_ rs_ k
theorem fk {es : List Ent} (h : Fks prog es) {leak : Bool} {R : List AV → AV → Prop} (k : ∀ args r, R args r → Run (ctx es) top rs 51 7 args r ∧ (leak = false → Fr r)) : Fk prog ⟨36, leak, R⟩ := fkS (ss := []) h trivial k
end C.group.Series
-- semigroup/group.Factors: semigroup/group/group.go .. 489
namespace C.group.Factors
def l2 : AC := .seq (.reg [⟨some 41, none, .bin .lss (.r 40) (.r 39)⟩] ([3, 5, 6, 7, 8, 38, 39, 40, 41], [0, 1, 2, 7])) (.seq (.cond (.r 41) .skip (.exit 2 ([3, 5, 6, 7, 8], [0, 1, 2, 7]))) (.seq (.block 3 (.seq (.reg [⟨some 42, none, .mov (.r 40)⟩, ⟨some 43, none, .idxA 1 (.r 38) (.r 40)⟩, ⟨some 44, none, .load 1 false (.r 43)⟩, ⟨some 9, none, .mov (.r 42)⟩, ⟨some 10, none, .mov (.r 44)⟩] ([3, 5, 6, 7, 8, 9, 10, 38, 39, 40], [0, 1, 2, 7])) (.reg [⟨some 45, none, .mov (.r 8)⟩, ⟨some 46, none, .mov (.r 10)⟩, ⟨some 47, none, .mov (.r 9)⟩, ⟨none, none, .mset (.int .i64) (.r 45) (.r 46) (.r 47)⟩] ([3, 5, 6, 7, 8, 38, 39, 40], [0, 1, 2, 7])))) (.reg [⟨some 48, none, .bin .add (.r 40) (.k (.int .i64 1))⟩, ⟨some 40, none, .mov (.r 48)⟩] ([3, 5, 6, 7, 8, 38, 39, 40], [0, 1, 2, 7]))))
abbrev L2 : AC := .loop l2 ([3, 5, 6, 7, 8, 38, 39, 40], [0, 1, 2, 7])
def l4 : AC := .seq (.reg [⟨some 55, none, .bin .lss (.r 54) (.r 53)⟩] ([3, 5, 6, 7, 8, 11, 52, 53, 54, 55], [0, 1, 2, 3, 7])) (.seq (.cond (.r 55) .skip (.exit 4 ([3, 5, 6, 7, 11], [0, 1, 3, 7]))) (.seq (.block 5 (.seq (.reg [⟨some 56, none, .idxA 1 (.r 52) (.r 54)⟩, ⟨some 57, none, .load 1 false (.r 56)⟩, ⟨some 13, none, .mov (.r 57)⟩] ([3, 5, 6, 7, 8, 11, 13, 52, 53, 54], [0, 1, 2, 3, 7])) (.reg [⟨some 58, none, .mov (.r 11)⟩, ⟨some 59, none, .mov (.r 8)⟩, ⟨some 60, none, .mov (.r 13)⟩, ⟨some 61, none, .lkp false (.int .i64) (.int .i64 0) (.r 59) (.r 60)⟩, ⟨some 62, none, .sl 4 Tint 1 1 [.int .i64 0] [(0, (.r 61))]⟩, ⟨some 63, none, .app 1000000 Tint 1 8 (.r 58) (.r 62)⟩, ⟨some 11, none, .mov (.r 63)⟩] ([3, 5, 6, 7, 8, 11, 52, 53, 54], [0, 1, 2, 3, 7])))) (.reg [⟨some 64, none, .bin .add (.r 54) (.k (.int .i64 1))⟩, ⟨some 54, none, .mov (.r 64)⟩] ([3, 5, 6, 7, 8, 11, 52, 53, 54], [0, 1, 2, 3, 7]))))
abbrev L4 : AC := .loop l4 ([3, 5, 6, 7, 8, 11, 52, 53, 54], [0, 1, 2, 3, 7])
def l8 : AC := .seq (.reg [⟨some 85, none, .bin .lss (.r 84) (.r 83)⟩] ([3, 5, 6, 7, 14, 15, 16, 78, 79, 83, 84, 85], [0, 1, 5, 7])) (.seq (.cond (.r 85) .skip (.exit 8 ([3, 5, 6, 7, 14, 15, 78, 79], [0, 1, 5, 7]))) (.seq (.block 9 (.seq (.reg [⟨some 86, none, .mov (.r 84)⟩, ⟨some 17, none, .mov (.r 86)⟩] ([3, 5, 6, 7, 14, 15, 16, 17, 78, 79, 83, 84], [0, 1, 5, 7])) (.dreg [⟨some 87, none, .fldA 1 1 (.r 15)⟩, ⟨some 88, none, .load 1 false (.r 87)⟩, ⟨some 89, none, .mov (.r 88)⟩, ⟨some 90, (some (89, true)), .mov (.r 14)⟩, ⟨some 91, (some (89, true)), .mov (.r 16)⟩, ⟨some 92, (some (89, true)), .idxA 1 (.r 90) (.r 91)⟩, ⟨some 93, (some (89, true)), .load 1 false (.r 92)⟩, ⟨some 94, (some (89, true)), .mov (.r 17)⟩, ⟨some 95, (some (89, true)), .idxA 1 (.r 93) (.r 94)⟩, ⟨some 96, (some (89, true)), .load 1 false (.r 95)⟩, ⟨some 97, (some (89, true)), .mov (.r 14)⟩, ⟨some 98, (some (89, true)), .mov (.r 17)⟩, ⟨some 99, (some (89, true)), .idxA 1 (.r 97) (.r 98)⟩, ⟨some 100, (some (89, true)), .load 1 false (.r 99)⟩, ⟨some 101, (some (89, true)), .mov (.r 16)⟩, ⟨some 102, (some (89, true)), .idxA 1 (.r 100) (.r 101)⟩, ⟨some 103, (some (89, true)), .load 1 false (.r 102)⟩, ⟨some 104, (some (89, true)), .bin .eql (.r 96) (.r 103)⟩, ⟨some 105, none, .pick (.r 89) (.r 104) (.k (.bool false))⟩, ⟨some 106, none, .fldA 1 1 (.r 15)⟩, ⟨none, none, .store 1 (.r 106) (.r 105)⟩] ([⟨some [], []⟩, ⟨some [5], []⟩, ⟨some [], []⟩, ⟨some [], []⟩, ⟨some [], []⟩, ⟨some [], []⟩, ⟨some [], []⟩, ⟨some [], []⟩, ⟨some [], []⟩, ⟨some [], []⟩, ⟨some [], []⟩, ⟨some [], []⟩, ⟨some [], []⟩, ⟨some [], []⟩, ⟨some [], []⟩, ⟨some [], []⟩, ⟨some [], []⟩, ⟨some [], []⟩, ⟨some [], []⟩, ⟨some [], []⟩, ⟨some [5], [5]⟩]) ([3, 5, 6, 7, 14, 15, 16, 78, 79, 83, 84], [0, 1, 5, 7])))) (.reg [⟨some 107, none, .bin .add (.r 84) (.k (.int .i64 1))⟩, ⟨some 84, none, .mov (.r 107)⟩] ([3, 5, 6, 7, 14, 15, 16, 78, 79, 83, 84], [0, 1, 5, 7]))))
abbrev L8 : AC := .loop l8 ([3, 5, 6, 7, 14, 15, 16, 78, 79, 83, 84], [0, 1, 5, 7])
def l6 : AC := .seq (.reg [⟨some 80, none, .bin .lss (.r 79) (.r 78)⟩] ([3, 5, 6, 7, 14, 15, 78, 79, 80], [0, 1, 5, 7])) (.seq (.cond (.r 80) .skip (.exit 6 ([3, 5, 6, 7, 15], [0, 1, 5, 7]))) (.seq (.block 7 (.seq (.reg [⟨some 81, none, .mov (.r 79)⟩, ⟨some 16, none, .mov (.r 81)⟩] ([3, 5, 6, 7, 14, 15, 16, 78, 79], [0, 1, 5, 7])) (.seq (.reg [⟨some 82, none, .mov (.r 14)⟩, ⟨some 83, none, .len (.r 82)⟩, ⟨some 84, none, .mov (.k (.int .i64 0))⟩] ([3, 5, 6, 7, 14, 15, 16, 78, 79, 83, 84], [0, 1, 5, 7])) (.block 8 (.loop l8 ([3, 5, 6, 7, 14, 15, 16, 78, 79, 83, 84], [0, 1, 5, 7])))))) (.reg [⟨some 108, none, .bin .add (.r 79) (.k (.int .i64 1))⟩, ⟨some 79, none, .mov (.r 108)⟩] ([3, 5, 6, 7, 14, 15, 78, 79], [0, 1, 5, 7]))))
abbrev L6 : AC := .loop l6 ([3, 5, 6, 7, 14, 15, 78, 79], [0, 1, 5, 7])
def l0 : AC := .seq (.seq (.reg [⟨some 27, none, .mov (.r 7)⟩, ⟨some 28, none, .mov (.r 5)⟩, ⟨some 29, none, .len (.r 28)⟩, ⟨some 30, none, .bin .lss (.r 27) (.r 29)⟩] ([3, 5, 6, 7, 30], [0, 1, 7])) (.cond (.r 30) .skip (.exit 0 ([6], [1, 7])))) (.seq (.block 1 (.seq (.reg [⟨some 33, none, .mkm 2 Tint Tint⟩, ⟨some 8, none, .mov (.r 33)⟩] ([3, 5, 6, 7, 8], [0, 1, 2, 7])) (.seq (.seq (.reg [⟨some 34, none, .mov (.r 5)⟩, ⟨some 35, none, .mov (.r 7)⟩, ⟨some 36, none, .bin .sub (.r 35) (.k (.int .i64 1))⟩, ⟨some 37, none, .idxA 1 (.r 34) (.r 36)⟩, ⟨some 38, none, .load 1 false (.r 37)⟩, ⟨some 39, none, .len (.r 38)⟩, ⟨some 40, none, .mov (.k (.int .i64 0))⟩] ([3, 5, 6, 7, 8, 38, 39, 40], [0, 1, 2, 7])) (.block 2 (.loop l2 ([3, 5, 6, 7, 8, 38, 39, 40], [0, 1, 2, 7])))) (.seq (.reg [⟨some 11, none, .nilr 3 Tint 1⟩] ([3, 5, 6, 7, 8, 11], [0, 1, 2, 3, 7])) (.seq (.seq (.reg [⟨some 49, none, .mov (.r 5)⟩, ⟨some 50, none, .mov (.r 7)⟩, ⟨some 51, none, .idxA 1 (.r 49) (.r 50)⟩, ⟨some 52, none, .load 1 false (.r 51)⟩, ⟨some 53, none, .len (.r 52)⟩, ⟨some 54, none, .mov (.k (.int .i64 0))⟩] ([3, 5, 6, 7, 8, 11, 52, 53, 54], [0, 1, 2, 3, 7])) (.block 4 (.loop l4 ([3, 5, 6, 7, 8, 11, 52, 53, 54], [0, 1, 2, 3, 7])))) (.seq (.dreg [⟨some 65, none, .load 3 true (.r 3)⟩, ⟨some 66, none, .mov (.r 5)⟩, ⟨some 67, none, .mov (.r 7)⟩, ⟨some 68, none, .bin .sub (.r 67) (.k (.int .i64 1))⟩, ⟨some 69, none, .idxA 1 (.r 66) (.r 68)⟩, ⟨some 70, none, .load 1 false (.r 69)⟩, ⟨some 71, none, .call F_group_group_within [(.r 65), (.r 70)]⟩, ⟨some 72, none, .mov (.r 11)⟩, ⟨some 73, none, .call F_group_group_quotient [(.r 71), (.r 72)]⟩, ⟨some 14, none, .mov (.r 73)⟩] (List.replicate 10 ⟨none, []⟩) ([3, 5, 6, 7, 14], [0, 1, 7])) (.seq (.reg [⟨some 74, none, .mov (.r 14)⟩, ⟨some 75, none, .len (.r 74)⟩, ⟨some 76, none, .bld [.int .i64 0, .bool false] [(0, 1, (.r 75)), (1, 1, (.k (.bool true)))]⟩, ⟨some 15, none, .alc 5 Tapi_Factor [.int .i64 0, .bool false]⟩, ⟨none, none, .store 2 (.r 15) (.r 76)⟩] ([3, 5, 6, 7, 14, 15], [0, 1, 5, 7])) (.seq (.seq (.reg [⟨some 77, none, .mov (.r 14)⟩, ⟨some 78, none, .len (.r 77)⟩, ⟨some 79, none, .mov (.k (.int .i64 0))⟩] ([3, 5, 6, 7, 14, 15, 78, 79], [0, 1, 5, 7])) (.block 6 (.loop l6 ([3, 5, 6, 7, 14, 15, 78, 79], [0, 1, 5, 7])))) (.reg [⟨some 109, none, .load 1 false (.r 6)⟩, ⟨some 110, none, .load 2 true (.r 15)⟩, ⟨some 111, none, .sl 6 Tapi_Factor 2 1 [.int .i64 0, .bool false] [(0, (.r 110))]⟩, ⟨some 112, none, .app 7 Tapi_Factor 2 16 (.r 109) (.r 111)⟩, ⟨none, none, .store 1 (.r 6) (.r 112)⟩] ([3, 5, 6, 7], [0, 1, 7])))))))))) (.reg [⟨some 31, none, .mov (.r 7)⟩, ⟨some 32, none, .bin .add (.r 31) (.k (.int .i64 1))⟩, ⟨some 7, none, .mov (.r 32)⟩] ([3, 5, 6, 7], [0, 1, 7])))
abbrev L0 : AC := .loop l0 ([3, 5, 6, 7], [0, 1, 7])
def top : AC := .seq (.reg [⟨some 2, none, .nilf true 2⟩] ([0], [])) (.seq (.reg [⟨some 19, none, .mov (.r 0)⟩, ⟨some 20, none, .call F_group_of [(.r 19)]⟩, ⟨some 18, none, .mov (.r 20)⟩, ⟨some 21, none, .ext 0 (.r 18)⟩, ⟨some 22, none, .ext 1 (.r 18)⟩, ⟨some 3, none, .alc 0 Tgroup_group [.slice none 0 0, .int .i64 0, .slice none 0 0]⟩, ⟨none, none, .store 3 (.r 3) (.r 21)⟩, ⟨some 4, none, .mov (.r 22)⟩] ([0, 3, 4], [0, 7])) (.seq (.seq (.reg [⟨some 23, none, .mov (.r 4)⟩, ⟨some 24, none, .un .not (.r 23)⟩] ([0, 3, 24], [0, 7])) (.cond (.r 24) (.seq (.reg [⟨some 2, none, .nilf true 2⟩] ([2], [7])) .ret) .skip)) (.seq (.reg [⟨some 25, none, .mov (.r 0)⟩, ⟨some 26, none, .call F_group_Series [(.r 25)]⟩, ⟨some 5, none, .mov (.r 26)⟩] ([3, 5], [0, 7])) (.seq (.reg [⟨some 6, none, .alc 1 TSapi_Factor [.slice none 0 0]⟩] ([3, 5, 6], [0, 1, 7])) (.seq (.seq (.reg [⟨some 7, none, .mov (.k (.int .i64 1))⟩] ([3, 5, 6, 7], [0, 1, 7])) (.block 0 (.loop l0 ([3, 5, 6, 7], [0, 1, 7])))) (.seq (.reg [⟨some 113, none, .load 1 false (.r 6)⟩, ⟨some 114, none, .ifc TSapi_Factor (.r 113)⟩, ⟨some 115, none, .clo F_group_Factors_1 [(.r 6)]⟩, ⟨some 116, none, .call F_sort_Slice [(.r 114), (.r 115)]⟩] ([6], [1, 7])) (.seq (.reg [⟨some 117, none, .load 1 false (.r 6)⟩, ⟨some 2, none, .mov (.r 117)⟩] ([2], [7])) .ret)))))))
def anno : Anno := ⟨8, [(0, 0, 1000000), (1, 5, 0), (3, 0, 1000000), (5, 0, 1), (9, 0, 2), (15, 0, 3), (19, 4, 4), (22, 3, 5), (32, 2, 6), (32, 3, 7)], [(0, ([0], [])), (1, ([0, 3, 4], [0, 7])), (2, ([0, 3, 24], [0, 7])), (3, ([2], [7])), (4, ([3, 5], [0, 7])), (5, ([3, 5, 6], [0, 1, 7])), (6, ([3, 5, 6, 7], [0, 1, 7])), (7, ([3, 5, 6, 7, 30], [0, 1, 7])), (8, ([3, 5, 6, 7], [0, 1, 7])), (9, ([3, 5, 6, 7, 8], [0, 1, 2, 7])), (10, ([3, 5, 6, 7, 8, 38, 39, 40], [0, 1, 2, 7])), (11, ([3, 5, 6, 7, 8, 38, 39, 40, 41], [0, 1, 2, 7])), (12, ([3, 5, 6, 7, 8, 9, 10, 38, 39, 40], [0, 1, 2, 7])), (13, ([3, 5, 6, 7, 8, 38, 39, 40], [0, 1, 2, 7])), (14, ([3, 5, 6, 7, 8, 38, 39, 40], [0, 1, 2, 7])), (15, ([3, 5, 6, 7, 8, 11], [0, 1, 2, 3, 7])), (16, ([3, 5, 6, 7, 8, 11, 52, 53, 54], [0, 1, 2, 3, 7])), (17, ([3, 5, 6, 7, 8, 11, 52, 53, 54, 55], [0, 1, 2, 3, 7])), (18, ([3, 5, 6, 7, 8, 11, 13, 52, 53, 54], [0, 1, 2, 3, 7])), (19, ([3, 5, 6, 7, 8, 11, 52, 53, 54], [0, 1, 2, 3, 7])), (20, ([3, 5, 6, 7, 8, 11, 52, 53, 54], [0, 1, 2, 3, 7])), (21, ([3, 5, 6, 7, 14], [0, 1, 7])), (22, ([3, 5, 6, 7, 14, 15], [0, 1, 5, 7])), (23, ([3, 5, 6, 7, 14, 15, 78, 79], [0, 1, 5, 7])), (24, ([3, 5, 6, 7, 14, 15, 78, 79, 80], [0, 1, 5, 7])), (25, ([3, 5, 6, 7, 14, 15, 16, 78, 79], [0, 1, 5, 7])), (26, ([3, 5, 6, 7, 14, 15, 16, 78, 79, 83, 84], [0, 1, 5, 7])), (27, ([3, 5, 6, 7, 14, 15, 16, 78, 79, 83, 84, 85], [0, 1, 5, 7])), (28, ([3, 5, 6, 7, 14, 15, 16, 17, 78, 79, 83, 84], [0, 1, 5, 7])), (29, ([3, 5, 6, 7, 14, 15, 16, 78, 79, 83, 84], [0, 1, 5, 7])), (30, ([3, 5, 6, 7, 14, 15, 16, 78, 79, 83, 84], [0, 1, 5, 7])), (31, ([3, 5, 6, 7, 14, 15, 78, 79], [0, 1, 5, 7])), (32, ([3, 5, 6, 7], [0, 1, 7])), (33, ([6], [1, 7])), (34, ([2], [7]))], [(0, ([3, 5, 6, 7], [0, 1, 7])), (2, ([3, 5, 6, 7, 8, 38, 39, 40], [0, 1, 2, 7])), (4, ([3, 5, 6, 7, 8, 11, 52, 53, 54], [0, 1, 2, 3, 7])), (6, ([3, 5, 6, 7, 14, 15, 78, 79], [0, 1, 5, 7])), (8, ([3, 5, 6, 7, 14, 15, 16, 78, 79, 83, 84], [0, 1, 5, 7]))], [(0, ([6], [1, 7])), (1, ([3, 5, 6, 7], [0, 1, 7])), (2, ([3, 5, 6, 7, 8], [0, 1, 2, 7])), (3, ([3, 5, 6, 7, 8, 38, 39, 40], [0, 1, 2, 7])), (4, ([3, 5, 6, 7, 11], [0, 1, 3, 7])), (5, ([3, 5, 6, 7, 8, 11, 52, 53, 54], [0, 1, 2, 3, 7])), (6, ([3, 5, 6, 7, 15], [0, 1, 5, 7])), (7, ([3, 5, 6, 7, 14, 15, 78, 79], [0, 1, 5, 7])), (8, ([3, 5, 6, 7, 14, 15, 78, 79], [0, 1, 5, 7])), (9, ([3, 5, 6, 7, 14, 15, 16, 78, 79, 83, 84], [0, 1, 5, 7]))], [(21, List.replicate 10 ⟨none, []⟩), (29, [⟨some [], []⟩, ⟨some [5], []⟩, ⟨some [], []⟩, ⟨some [], []⟩, ⟨some [], []⟩, ⟨some [], []⟩, ⟨some [], []⟩, ⟨some [], []⟩, ⟨some [], []⟩, ⟨some [], []⟩, ⟨some [], []⟩, ⟨some [], []⟩, ⟨some [], []⟩, ⟨some [], []⟩, ⟨some [], []⟩, ⟨some [], []⟩, ⟨some [], []⟩, ⟨some [], []⟩, ⟨some [], []⟩, ⟨some [], []⟩, ⟨some [5], [5]⟩])]⟩
def rs : List RV := [.tm 2]
theorem comp_ : f37.body.bind (compile prog anno) = some top := by kernel_rfl
theorem rs_ : rvsOf prog f37.results.toList = some rs := by kernel_rfl
theorem fkS {es : List Ent} {ss : List Spe} (h : Fks prog es) (hs : Fsps prog ss) {leak : Bool} {R : List AV → AV → Prop} (k : ∀ args r, R args r → Run (ctx es ss) top rs 118 8 args r ∧ (leak = false → Fr r)) : Fk prog ⟨37, leak, R⟩ := fk_of h hs mix_ (by kernel_rfl : prog.funcs[37]? = some f37) (by kernel_rfl) comp_ rs_ k
theorem fk {es : List Ent} (h : Fks prog es) {leak : Bool} {R : List AV → AV → Prop} (k : ∀ args r, R args r → Run (ctx es) top rs 118 8 args r ∧ (leak = false → Fr r)) : Fk prog ⟨37, leak, R⟩ := fkS (ss := []) h trivial k
end C.group.Factors
-- semigroup/semigroupref14.Shape: semigroup/semigroupref14/ref.go .. 29
namespace C.ref14.Shape
def l2 : AC := .seq (.reg [⟨some 27, none, .bin .lss (.r 26) (.r 25)⟩] ([0, 13, 14, 15, 24, 25, 26, 27], [])) (.seq (.cond (.r 27) .skip (.exit 2 ([0, 13, 14, 15], []))) (.seq (.block 3 (.seq (.reg [⟨some 28, none, .idxA 1 (.r 24) (.r 26)⟩, ⟨some 29, none, .load 1 false (.r 28)⟩, ⟨some 6, none, .mov (.r 29)⟩] ([0, 6, 13, 14, 15, 24, 25, 26], [])) (.seq (.reg [⟨some 30, none, .mov (.r 6)⟩, ⟨some 31, none, .bin .lss (.r 30) (.k (.int .i64 0))⟩, ⟨some 32, none, .mov (.r 31)⟩, ⟨some 33, (some (32, false)), .mov (.r 6)⟩, ⟨some 34, (some (32, false)), .mov (.r 0)⟩, ⟨some 35, (some (32, false)), .len (.r 34)⟩, ⟨some 36, (some (32, false)), .bin .geq (.r 33) (.r 35)⟩, ⟨some 37, none, .pick (.r 32) (.k (.bool true)) (.r 36)⟩] ([0, 13, 14, 15, 24, 25, 26, 37], [])) (.cond (.r 37) (.seq (.reg [⟨some 2, none, .mov (.k (.int .i64 4))⟩] ([2], [])) .ret) .skip)))) (.reg [⟨some 38, none, .bin .add (.r 26) (.k (.int .i64 1))⟩, ⟨some 26, none, .mov (.r 38)⟩] ([0, 13, 14, 15, 24, 25, 26], []))))
abbrev L2 : AC := .loop l2 ([0, 13, 14, 15, 24, 25, 26], [])
def l0 : AC := .seq (.reg [⟨some 16, none, .bin .lss (.r 15) (.r 14)⟩] ([0, 13, 14, 15, 16], [])) (.seq (.cond (.r 16) .skip (.exit 0 ([], []))) (.seq (.block 1 (.seq (.reg [⟨some 17, none, .idxA 1 (.r 13) (.r 15)⟩, ⟨some 18, none, .load 1 false (.r 17)⟩, ⟨some 4, none, .mov (.r 18)⟩] ([0, 4, 13, 14, 15], [])) (.seq (.seq (.reg [⟨some 19, none, .mov (.r 4)⟩, ⟨some 20, none, .len (.r 19)⟩, ⟨some 21, none, .mov (.r 0)⟩, ⟨some 22, none, .len (.r 21)⟩, ⟨some 23, none, .bin .neq (.r 20) (.r 22)⟩] ([0, 4, 13, 14, 15, 23], [])) (.cond (.r 23) (.seq (.reg [⟨some 2, none, .mov (.k (.int .i64 4))⟩] ([2], [])) .ret) .skip)) (.seq (.reg [⟨some 24, none, .mov (.r 4)⟩, ⟨some 25, none, .len (.r 24)⟩, ⟨some 26, none, .mov (.k (.int .i64 0))⟩] ([0, 13, 14, 15, 24, 25, 26], [])) (.block 2 (.loop l2 ([0, 13, 14, 15, 24, 25, 26], []))))))) (.reg [⟨some 39, none, .bin .add (.r 15) (.k (.int .i64 1))⟩, ⟨some 15, none, .mov (.r 39)⟩] ([0, 13, 14, 15], []))))
abbrev L0 : AC := .loop l0 ([0, 13, 14, 15], [])
def top : AC := .seq (.reg [⟨some 2, none, .mov (.k (.int .i64 0))⟩] ([0], [])) (.seq (.seq (.reg [⟨some 7, none, .mov (.r 0)⟩, ⟨some 8, none, .len (.r 7)⟩, ⟨some 9, none, .bin .gtr (.r 8) (.k (.int .i64 400))⟩] ([0, 9], [])) (.cond (.r 9) (.seq (.reg [⟨some 2, none, .mov (.k (.int .i64 3))⟩] ([2], [])) .ret) .skip)) (.seq (.seq (.reg [⟨some 10, none, .mov (.r 0)⟩, ⟨some 11, none, .len (.r 10)⟩, ⟨some 12, none, .bin .eql (.r 11) (.k (.int .i64 0))⟩] ([0, 12], [])) (.cond (.r 12) (.seq (.reg [⟨some 2, none, .mov (.k (.int .i64 4))⟩] ([2], [])) .ret) .skip)) (.seq (.seq (.reg [⟨some 13, none, .mov (.r 0)⟩, ⟨some 14, none, .len (.r 13)⟩, ⟨some 15, none, .mov (.k (.int .i64 0))⟩] ([0, 13, 14, 15], [])) (.block 0 (.loop l0 ([0, 13, 14, 15], [])))) (.seq (.reg [⟨some 2, none, .mov (.k (.int .i64 0))⟩] ([2], [])) .ret))))
def anno : Anno := ⟨0, [], [(0, ([0], [])), (1, ([0, 9], [])), (2, ([2], [])), (3, ([0, 12], [])), (4, ([2], [])), (5, ([0, 13, 14, 15], [])), (6, ([0, 13, 14, 15, 16], [])), (7, ([0, 4, 13, 14, 15], [])), (8, ([0, 4, 13, 14, 15, 23], [])), (9, ([2], [])), (10, ([0, 13, 14, 15, 24, 25, 26], [])), (11, ([0, 13, 14, 15, 24, 25, 26, 27], [])), (12, ([0, 6, 13, 14, 15, 24, 25, 26], [])), (13, ([0, 13, 14, 15, 24, 25, 26, 37], [])), (14, ([2], [])), (15, ([0, 13, 14, 15, 24, 25, 26], [])), (16, ([0, 13, 14, 15], [])), (17, ([2], []))], [(0, ([0, 13, 14, 15], [])), (2, ([0, 13, 14, 15, 24, 25, 26], []))], [(0, ([], [])), (1, ([0, 13, 14, 15], [])), (2, ([0, 13, 14, 15], [])), (3, ([0, 13, 14, 15, 24, 25, 26], []))], []⟩
def rs : List RV := [.tm 2]
theorem comp_ : f41.body.bind (compile prog anno) = some top := by kernel_rfl
theorem rs_ : rvsOf prog f41.results.toList = some rs := by kernel_rfl
theorem fkS {es : List Ent} {ss : List Spe} (h : Fks prog es) (hs : Fsps prog ss) {leak : Bool} {R : List AV → AV → Prop} (k : ∀ args r, R args r → Run (ctx es ss) top rs 40 0 args r ∧ (leak = false → Fr r)) : Fk prog ⟨41, leak, R⟩ := fk_of h hs mix_ (by kernel_rfl : prog.funcs[41]? = some f41) (by kernel_rfl) comp_ rs_ k
theorem fq {es : List Ent} (h : Fqs prog es) {leak : Bool} {R : List AV → AV → Prop} (hq : quietX (ctxQ es) top = true) (k : ∀ args r, R args r → Run (ctxQ es) top rs 40 0 args r ∧ (leak = false → Fr r)) : Fq prog ⟨41, leak, R⟩ := fq_of h mix_ (by kernel_rfl : prog.funcs[41]? = some f41) (by kernel_rfl) comp_ rs_ hq k
theorem fk {es : List Ent} (h : Fks prog es) {leak : Bool} {R : List AV → AV → Prop} (k : ∀ args r, R args r → Run (ctx es) top rs 40 0 args r ∧ (leak = false → Fr r)) : Fk prog ⟨41, leak, R⟩ := fkS (ss := []) h trivial k
end C.ref14.Shape
-- semigroup/semigrouplaw16.three: semigroup/semigrouplaw16/law.go .. 18
namespace C.law16.three
def top : AC := .seq (.reg [⟨some 0, none, .nilf true 1⟩] ([], [])) (.seq (.reg [⟨some 6, none, .sl 0 Tint 1 3 [.int .i64 0] [(0, (.k (.int .i64 1))), (1, (.k (.int .i64 2))), (2, (.k (.int .i64 0)))]⟩, ⟨some 7, none, .sl 1 Tint 1 3 [.int .i64 0] [(0, (.k (.int .i64 1))), (1, (.k (.int .i64 0))), (2, (.k (.int .i64 2)))]⟩, ⟨some 8, none, .sl 2 TSint 1 2 [.slice none 0 0] [(0, (.r 6)), (1, (.r 7))]⟩, ⟨some 9, none, .call F_group_Generate [(.r 8)]⟩, ⟨some 5, none, .mov (.r 9)⟩, ⟨some 10, none, .ext 0 (.r 5)⟩, ⟨some 11, none, .ext 1 (.r 5)⟩, ⟨some 1, none, .mov (.r 10)⟩, ⟨some 2, none, .mov (.r 11)⟩] ([1], [])) (.seq (.reg [⟨some 13, none, .mov (.r 1)⟩, ⟨some 14, none, .call F_group_Table [(.r 13)]⟩, ⟨some 12, none, .mov (.r 14)⟩, ⟨some 15, none, .ext 0 (.r 12)⟩, ⟨some 16, none, .ext 1 (.r 12)⟩, ⟨some 3, none, .mov (.r 15)⟩, ⟨some 4, none, .mov (.r 16)⟩] ([3], [])) (.seq (.reg [⟨some 17, none, .mov (.r 3)⟩, ⟨some 0, none, .mov (.r 17)⟩] ([0], [])) .ret)))
def anno : Anno := ⟨3, [(0, 0, 1000000), (1, 0, 0), (1, 1, 1), (1, 2, 2)], [(0, ([], [])), (1, ([1], [])), (2, ([3], [])), (3, ([0], []))], [], [], []⟩
def rs : List RV := [.tm 0]
theorem comp_ : f42.body.bind (compile prog anno) = some top := by kernel_rfl
theorem rs_ : rvsOf prog f42.results.toList = some rs := by kernel_rfl
theorem fkS {es : List Ent} {ss : List Spe} (h : Fks prog es) (hs : Fsps prog ss) {leak : Bool} {R : List AV → AV → Prop} (k : ∀ args r, R args r → Run (ctx es ss) top rs 18 3 args r ∧ (leak = false → Fr r)) : Fk prog ⟨42, leak, R⟩ := fk_of h hs mix_ (by kernel_rfl : prog.funcs[42]? = some f42) (by kernel_rfl) comp_ rs_ k
theorem fk {es : List Ent} (h : Fks prog es) {leak : Bool} {R : List AV → AV → Prop} (k : ∀ args r, R args r → Run (ctx es) top rs 18 3 args r ∧ (leak = false → Fr r)) : Fk prog ⟨42, leak, R⟩ := fkS (ss := []) h trivial k
end C.law16.three
-- semigroup/group.of: semigroup/group/group.go .. 58
namespace C.group.of
def top : AC := .seq (.reg [⟨some 2, none, .alc 0 Tgroup_group [.slice none 0 0, .int .i64 0, .slice none 0 0]⟩, ⟨some 3, none, .mov (.k (.bool false))⟩] ([0, 2], [0])) (.seq (.seq (.reg [⟨some 7, none, .mov (.r 0)⟩, ⟨some 8, none, .call F_mult_Validate [(.r 7)]⟩, ⟨some 9, none, .bin .neq (.r 8) (.k (.int .i64 0))⟩] ([0, 2, 9], [0])) (.cond (.r 9) (.seq (.reg [⟨some 10, none, .bld [.slice none 0 0, .int .i64 0, .slice none 0 0] []⟩, ⟨none, none, .store 3 (.r 2) (.r 10)⟩, ⟨some 3, none, .mov (.k (.bool false))⟩] ([2, 3], [0])) .ret) .skip)) (.seq (.reg [⟨some 12, none, .mov (.r 0)⟩, ⟨some 13, none, .call F_group_inverses [(.r 12)]⟩, ⟨some 11, none, .mov (.r 13)⟩, ⟨some 14, none, .ext 0 (.r 11)⟩, ⟨some 15, none, .ext 1 (.r 11)⟩, ⟨some 16, none, .ext 2 (.r 11)⟩, ⟨some 4, none, .mov (.r 14)⟩, ⟨some 5, none, .mov (.r 15)⟩, ⟨some 6, none, .mov (.r 16)⟩] ([0, 2, 4, 5, 6], [0])) (.seq (.reg [⟨some 17, none, .mov (.r 0)⟩, ⟨some 18, none, .mov (.r 4)⟩, ⟨some 19, none, .mov (.r 5)⟩, ⟨some 20, none, .bld [.slice none 0 0, .int .i64 0, .slice none 0 0] [(0, 1, (.r 17)), (1, 1, (.r 18)), (2, 1, (.r 19))]⟩, ⟨some 21, none, .mov (.r 6)⟩, ⟨none, none, .store 3 (.r 2) (.r 20)⟩, ⟨some 3, none, .mov (.r 21)⟩] ([2, 3], [0])) .ret)))
def anno : Anno := ⟨1, [(0, 0, 0)], [(0, ([0, 2], [0])), (1, ([0, 2, 9], [0])), (2, ([2, 3], [0])), (3, ([0, 2, 4, 5, 6], [0])), (4, ([2, 3], [0]))], [], [], []⟩
def rs : List RV := [.cell 2 3 true, .tm 3]
theorem comp_ : f43.body.bind (compile prog anno) = some top := by kernel_rfl
theorem rs_ : rvsOf prog f43.results.toList = some rs := by kernel_rfl
theorem fkS {es : List Ent} {ss : List Spe} (h : Fks prog es) (hs : Fsps prog ss) {leak : Bool} {R : List AV → AV → Prop} (k : ∀ args r, R args r → Run (ctx es ss) top rs 22 1 args r ∧ (leak = false → Fr r)) : Fk prog ⟨43, leak, R⟩ := fk_of h hs mix_ (by kernel_rfl : prog.funcs[43]? = some f43) (by kernel_rfl) comp_ rs_ k
theorem fk {es : List Ent} (h : Fks prog es) {leak : Bool} {R : List AV → AV → Prop} (k : ∀ args r, R args r → Run (ctx es) top rs 22 1 args r ∧ (leak = false → Fr r)) : Fk prog ⟨43, leak, R⟩ := fkS (ss := []) h trivial k
end C.group.of
-- (semigroup/group.group).all: semigroup/group/group.go .. 322
namespace C.group.group.all
def top : AC := .seq (.reg [⟨some 1, none, .box 0 Tgroup_group 3 (.r 0)⟩, ⟨some 2, none, .nilf true 1⟩] ([1], [0])) (.seq (.reg [⟨some 3, none, .fldA 0 1 (.r 1)⟩, ⟨some 4, none, .load 1 false (.r 3)⟩, ⟨some 5, none, .len (.r 4)⟩, ⟨some 6, none, .call F_partition_Discrete [(.r 5)]⟩, ⟨some 2, none, .mov (.r 6)⟩] ([2], [])) .ret)
def anno : Anno := ⟨1, [(0, 0, 0), (0, 1, 1000000)], [(0, ([1], [0])), (1, ([2], []))], [], [], []⟩
def rs : List RV := [.tm 2]
theorem comp_ : f44.body.bind (compile prog anno) = some top := by kernel_rfl
theorem rs_ : rvsOf prog f44.results.toList = some rs := by kernel_rfl
theorem fkS {es : List Ent} {ss : List Spe} (h : Fks prog es) (hs : Fsps prog ss) {leak : Bool} {R : List AV → AV → Prop} (k : ∀ args r, R args r → Run (ctx es ss) top rs 7 1 args r ∧ (leak = false → Fr r)) : Fk prog ⟨44, leak, R⟩ := fk_of h hs mix_ (by kernel_rfl : prog.funcs[44]? = some f44) (by kernel_rfl) comp_ rs_ k
theorem fk {es : List Ent} (h : Fks prog es) {leak : Bool} {R : List AV → AV → Prop} (k : ∀ args r, R args r → Run (ctx es) top rs 7 1 args r ∧ (leak = false → Fr r)) : Fk prog ⟨44, leak, R⟩ := fkS (ss := []) h trivial k
end C.group.group.all
-- (semigroup/group.group).derived: semigroup/group/group.go .. 319
namespace C.group.group.derived
def l2 : AC := .seq (.reg [⟨some 25, none, .bin .lss (.r 24) (.r 23)⟩] ([1, 2, 5, 6, 8, 16, 17, 18, 22, 23, 24, 25], [0, 1, 2])) (.seq (.cond (.r 25) .skip (.exit 2 ([1, 2, 5, 6, 16, 17, 18], [0, 1, 2]))) (.seq (.block 3 (.seq (.reg [⟨some 26, none, .idxA 1 (.r 22) (.r 24)⟩, ⟨some 27, none, .load 1 false (.r 26)⟩, ⟨some 10, none, .mov (.r 27)⟩] ([1, 2, 5, 6, 8, 10, 16, 17, 18, 22, 23, 24], [0, 1, 2])) (.seq (.dreg [⟨some 28, none, .fldA 0 1 (.r 2)⟩, ⟨some 29, none, .load 1 false (.r 28)⟩, ⟨some 30, none, .fldA 0 1 (.r 2)⟩, ⟨some 31, none, .load 1 false (.r 30)⟩, ⟨some 32, none, .fldA 0 1 (.r 2)⟩, ⟨some 33, none, .load 1 false (.r 32)⟩, ⟨some 34, none, .mov (.r 8)⟩, ⟨some 35, none, .idxA 1 (.r 33) (.r 34)⟩, ⟨some 36, none, .load 1 false (.r 35)⟩, ⟨some 37, none, .mov (.r 10)⟩, ⟨some 38, none, .idxA 1 (.r 36) (.r 37)⟩, ⟨some 39, none, .load 1 false (.r 38)⟩, ⟨some 40, none, .idxA 1 (.r 31) (.r 39)⟩, ⟨some 41, none, .load 1 false (.r 40)⟩, ⟨some 42, none, .fldA 2 1 (.r 2)⟩, ⟨some 43, none, .load 1 false (.r 42)⟩, ⟨some 44, none, .mov (.r 8)⟩, ⟨some 45, none, .idxA 1 (.r 43) (.r 44)⟩, ⟨some 46, none, .load 1 false (.r 45)⟩, ⟨some 47, none, .idxA 1 (.r 41) (.r 46)⟩, ⟨some 48, none, .load 1 false (.r 47)⟩, ⟨some 49, none, .idxA 1 (.r 29) (.r 48)⟩, ⟨some 50, none, .load 1 false (.r 49)⟩, ⟨some 51, none, .fldA 2 1 (.r 2)⟩, ⟨some 52, none, .load 1 false (.r 51)⟩, ⟨some 53, none, .mov (.r 10)⟩, ⟨some 54, none, .idxA 1 (.r 52) (.r 53)⟩, ⟨some 55, none, .load 1 false (.r 54)⟩, ⟨some 56, none, .idxA 1 (.r 50) (.r 55)⟩, ⟨some 57, none, .load 1 false (.r 56)⟩, ⟨some 11, none, .mov (.r 57)⟩] (List.replicate 31 ⟨none, []⟩) ([1, 2, 5, 6, 8, 11, 16, 17, 18, 22, 23, 24], [0, 1, 2])) (.seq (.reg [⟨some 58, none, .mov (.r 5)⟩, ⟨some 59, none, .mov (.r 11)⟩, ⟨some 60, none, .idxA 1 (.r 58) (.r 59)⟩, ⟨some 61, none, .load 1 false (.r 60)⟩, ⟨some 62, none, .un .not (.r 61)⟩] ([1, 2, 5, 6, 8, 11, 16, 17, 18, 22, 23, 24, 62], [0, 1, 2])) (.cond (.r 62) (.seq (.reg [⟨some 63, none, .mov (.r 5)⟩, ⟨some 64, none, .mov (.r 11)⟩, ⟨some 65, none, .idxA 1 (.r 63) (.r 64)⟩, ⟨none, none, .store 1 (.r 65) (.k (.bool true))⟩] ([1, 2, 5, 6, 8, 11, 16, 17, 18, 22, 23, 24], [0, 1, 2])) (.reg [⟨some 66, none, .mov (.r 6)⟩, ⟨some 67, none, .mov (.r 11)⟩, ⟨some 68, none, .sl 3 Tint 1 1 [.int .i64 0] [(0, (.r 67))]⟩, ⟨some 69, none, .app 1000000 Tint 1 8 (.r 66) (.r 68)⟩, ⟨some 6, none, .mov (.r 69)⟩] ([1, 2, 5, 6, 8, 16, 17, 18, 22, 23, 24], [0, 1, 2]))) .skip))))) (.reg [⟨some 70, none, .bin .add (.r 24) (.k (.int .i64 1))⟩, ⟨some 24, none, .mov (.r 70)⟩] ([1, 2, 5, 6, 8, 16, 17, 18, 22, 23, 24], [0, 1, 2]))))
abbrev L2 : AC := .loop l2 ([1, 2, 5, 6, 8, 16, 17, 18, 22, 23, 24], [0, 1, 2])
def l0 : AC := .seq (.reg [⟨some 19, none, .bin .lss (.r 18) (.r 17)⟩] ([1, 2, 5, 6, 16, 17, 18, 19], [0, 1, 2])) (.seq (.cond (.r 19) .skip (.exit 0 ([2, 6], [0, 2]))) (.seq (.block 1 (.seq (.reg [⟨some 20, none, .idxA 1 (.r 16) (.r 18)⟩, ⟨some 21, none, .load 1 false (.r 20)⟩, ⟨some 8, none, .mov (.r 21)⟩] ([1, 2, 5, 6, 8, 16, 17, 18], [0, 1, 2])) (.seq (.reg [⟨some 22, none, .mov (.r 1)⟩, ⟨some 23, none, .len (.r 22)⟩, ⟨some 24, none, .mov (.k (.int .i64 0))⟩] ([1, 2, 5, 6, 8, 16, 17, 18, 22, 23, 24], [0, 1, 2])) (.block 2 (.loop l2 ([1, 2, 5, 6, 8, 16, 17, 18, 22, 23, 24], [0, 1, 2])))))) (.reg [⟨some 71, none, .bin .add (.r 18) (.k (.int .i64 1))⟩, ⟨some 18, none, .mov (.r 71)⟩] ([1, 2, 5, 6, 16, 17, 18], [0, 1, 2]))))
abbrev L0 : AC := .loop l0 ([1, 2, 5, 6, 16, 17, 18], [0, 1, 2])
def top : AC := .seq (.reg [⟨some 2, none, .box 0 Tgroup_group 3 (.r 0)⟩, ⟨some 4, none, .nilf true 1⟩] ([1, 2], [0])) (.seq (.reg [⟨some 12, none, .fldA 0 1 (.r 2)⟩, ⟨some 13, none, .load 1 false (.r 12)⟩, ⟨some 14, none, .len (.r 13)⟩, ⟨some 15, none, .mk 1 Tbool 1 1 [.bool false] (.r 14) (.r 14)⟩, ⟨some 5, none, .mov (.r 15)⟩] ([1, 2, 5], [0, 1])) (.seq (.reg [⟨some 6, none, .nilr 2 Tint 1⟩] ([1, 2, 5, 6], [0, 1, 2])) (.seq (.seq (.reg [⟨some 16, none, .mov (.r 1)⟩, ⟨some 17, none, .len (.r 16)⟩, ⟨some 18, none, .mov (.k (.int .i64 0))⟩] ([1, 2, 5, 6, 16, 17, 18], [0, 1, 2])) (.block 0 (.loop l0 ([1, 2, 5, 6, 16, 17, 18], [0, 1, 2])))) (.seq (.reg [⟨some 72, none, .load 3 true (.r 2)⟩, ⟨some 73, none, .mov (.r 6)⟩, ⟨some 74, none, .call F_group_group_generate [(.r 72), (.r 73)]⟩, ⟨some 4, none, .mov (.r 74)⟩] ([4], [])) .ret))))
def anno : Anno := ⟨4, [(0, 0, 0), (0, 1, 1000000), (1, 3, 1), (2, 0, 2), (12, 2, 3)], [(0, ([1, 2], [0])), (1, ([1, 2, 5], [0, 1])), (2, ([1, 2, 5, 6], [0, 1, 2])), (3, ([1, 2, 5, 6, 16, 17, 18], [0, 1, 2])), (4, ([1, 2, 5, 6, 16, 17, 18, 19], [0, 1, 2])), (5, ([1, 2, 5, 6, 8, 16, 17, 18], [0, 1, 2])), (6, ([1, 2, 5, 6, 8, 16, 17, 18, 22, 23, 24], [0, 1, 2])), (7, ([1, 2, 5, 6, 8, 16, 17, 18, 22, 23, 24, 25], [0, 1, 2])), (8, ([1, 2, 5, 6, 8, 10, 16, 17, 18, 22, 23, 24], [0, 1, 2])), (9, ([1, 2, 5, 6, 8, 11, 16, 17, 18, 22, 23, 24], [0, 1, 2])), (10, ([1, 2, 5, 6, 8, 11, 16, 17, 18, 22, 23, 24, 62], [0, 1, 2])), (11, ([1, 2, 5, 6, 8, 11, 16, 17, 18, 22, 23, 24], [0, 1, 2])), (12, ([1, 2, 5, 6, 8, 16, 17, 18, 22, 23, 24], [0, 1, 2])), (13, ([1, 2, 5, 6, 8, 16, 17, 18, 22, 23, 24], [0, 1, 2])), (14, ([1, 2, 5, 6, 16, 17, 18], [0, 1, 2])), (15, ([4], []))], [(0, ([1, 2, 5, 6, 16, 17, 18], [0, 1, 2])), (2, ([1, 2, 5, 6, 8, 16, 17, 18, 22, 23, 24], [0, 1, 2]))], [(0, ([2, 6], [0, 2])), (1, ([1, 2, 5, 6, 16, 17, 18], [0, 1, 2])), (2, ([1, 2, 5, 6, 16, 17, 18], [0, 1, 2])), (3, ([1, 2, 5, 6, 8, 16, 17, 18, 22, 23, 24], [0, 1, 2]))], [(9, List.replicate 31 ⟨none, []⟩)]⟩
def rs : List RV := [.tm 4]
theorem comp_ : f45.body.bind (compile prog anno) = some top := by kernel_rfl
theorem rs_ : rvsOf prog f45.results.toList = some rs := by kernel_rfl
theorem fkS {es : List Ent} {ss : List Spe} (h : Fks prog es) (hs : Fsps prog ss) {leak : Bool} {R : List AV → AV → Prop} (k : ∀ args r, R args r → Run (ctx es ss) top rs 75 4 args r ∧ (leak = false → Fr r)) : Fk prog ⟨45, leak, R⟩ := fk_of h hs mix_ (by kernel_rfl : prog.funcs[45]? = some f45) (by kernel_rfl) comp_ rs_ k
theorem fk {es : List Ent} (h : Fks prog es) {leak : Bool} {R : List AV → AV → Prop} (k : ∀ args r, R args r → Run (ctx es) top rs 75 4 args r ∧ (leak = false → Fr r)) : Fk prog ⟨45, leak, R⟩ := fkS (ss := []) h trivial k
end C.group.group.derived
-- (semigroup/group.group).simple: semigroup/group/group.go .. 361
namespace C.group.group.simple
def l0 : AC := .seq (.reg [⟨some 12, none, .bin .lss (.r 11) (.r 10)⟩] ([1, 10, 11, 12], [0])) (.seq (.cond (.r 12) .skip (.exit 0 ([], []))) (.seq (.block 1 (.seq (.reg [⟨some 13, none, .mov (.r 11)⟩, ⟨some 3, none, .mov (.r 13)⟩] ([1, 3, 10, 11], [0])) (.seq (.dreg [⟨some 14, none, .mov (.r 3)⟩, ⟨some 15, none, .fldA 1 1 (.r 1)⟩, ⟨some 16, none, .load 1 false (.r 15)⟩, ⟨some 17, none, .bin .neq (.r 14) (.r 16)⟩, ⟨some 18, none, .mov (.r 17)⟩, ⟨some 19, (some (18, true)), .load 3 true (.r 1)⟩, ⟨some 20, (some (18, true)), .mov (.r 3)⟩, ⟨some 21, (some (18, true)), .sl 1 Tint 1 1 [.int .i64 0] [(0, (.r 20))]⟩, ⟨some 22, (some (18, true)), .call F_group_group_closure [(.r 19), (.r 21)]⟩, ⟨some 23, (some (18, true)), .len (.r 22)⟩, ⟨some 24, (some (18, true)), .fldA 0 1 (.r 1)⟩, ⟨some 25, (some (18, true)), .load 1 false (.r 24)⟩, ⟨some 26, (some (18, true)), .len (.r 25)⟩, ⟨some 27, (some (18, true)), .bin .lss (.r 23) (.r 26)⟩, ⟨some 28, none, .pick (.r 18) (.r 27) (.k (.bool false))⟩] ([⟨some [], []⟩, ⟨some [], []⟩, ⟨some [0], []⟩, ⟨some [], []⟩, ⟨some [], []⟩, ⟨some [0], []⟩, ⟨some [], []⟩, ⟨some [1], [1]⟩, ⟨some [1], []⟩, ⟨some [], []⟩, ⟨some [], []⟩, ⟨some [0], []⟩, ⟨some [], []⟩, ⟨some [], []⟩, ⟨some [], []⟩]) ([1, 10, 11, 28], [0])) (.cond (.r 28) (.seq (.reg [⟨some 2, none, .mov (.k (.bool false))⟩] ([2], [])) .ret) .skip)))) (.reg [⟨some 29, none, .bin .add (.r 11) (.k (.int .i64 1))⟩, ⟨some 11, none, .mov (.r 29)⟩] ([1, 10, 11], [0]))))
abbrev L0 : AC := .loop l0 ([1, 10, 11], [0])
def top : AC := .seq (.reg [⟨some 1, none, .box 0 Tgroup_group 3 (.r 0)⟩, ⟨some 2, none, .mov (.k (.bool false))⟩] ([1], [0])) (.seq (.seq (.reg [⟨some 4, none, .fldA 0 1 (.r 1)⟩, ⟨some 5, none, .load 1 false (.r 4)⟩, ⟨some 6, none, .len (.r 5)⟩, ⟨some 7, none, .bin .eql (.r 6) (.k (.int .i64 1))⟩] ([1, 7], [0])) (.cond (.r 7) (.seq (.reg [⟨some 2, none, .mov (.k (.bool false))⟩] ([2], [])) .ret) .skip)) (.seq (.seq (.reg [⟨some 8, none, .fldA 0 1 (.r 1)⟩, ⟨some 9, none, .load 1 false (.r 8)⟩, ⟨some 10, none, .len (.r 9)⟩, ⟨some 11, none, .mov (.k (.int .i64 0))⟩] ([1, 10, 11], [0])) (.block 0 (.loop l0 ([1, 10, 11], [0])))) (.seq (.reg [⟨some 2, none, .mov (.k (.bool true))⟩] ([2], [])) .ret)))
def anno : Anno := ⟨2, [(0, 0, 0), (6, 7, 1)], [(0, ([1], [0])), (1, ([1, 7], [0])), (2, ([2], [])), (3, ([1, 10, 11], [0])), (4, ([1, 10, 11, 12], [0])), (5, ([1, 3, 10, 11], [0])), (6, ([1, 10, 11, 28], [0])), (7, ([2], [])), (8, ([1, 10, 11], [0])), (9, ([2], []))], [(0, ([1, 10, 11], [0]))], [(0, ([], [])), (1, ([1, 10, 11], [0]))], [(6, [⟨some [], []⟩, ⟨some [], []⟩, ⟨some [0], []⟩, ⟨some [], []⟩, ⟨some [], []⟩, ⟨some [0], []⟩, ⟨some [], []⟩, ⟨some [1], [1]⟩, ⟨some [1], []⟩, ⟨some [], []⟩, ⟨some [], []⟩, ⟨some [0], []⟩, ⟨some [], []⟩, ⟨some [], []⟩, ⟨some [], []⟩])]⟩
def rs : List RV := [.tm 2]
theorem comp_ : f46.body.bind (compile prog anno) = some top := by kernel_rfl
theorem rs_ : rvsOf prog f46.results.toList = some rs := by kernel_rfl
theorem fkS {es : List Ent} {ss : List Spe} (h : Fks prog es) (hs : Fsps prog ss) {leak : Bool} {R : List AV → AV → Prop} (k : ∀ args r, R args r → Run (ctx es ss) top rs 30 2 args r ∧ (leak = false → Fr r)) : Fk prog ⟨46, leak, R⟩ := fk_of h hs mix_ (by kernel_rfl : prog.funcs[46]? = some f46) (by kernel_rfl) comp_ rs_ k
theorem fk {es : List Ent} (h : Fks prog es) {leak : Bool} {R : List AV → AV → Prop} (k : ∀ args r, R args r → Run (ctx es) top rs 30 2 args r ∧ (leak = false → Fr r)) : Fk prog ⟨46, leak, R⟩ := fkS (ss := []) h trivial k
end C.group.group.simple
-- (semigroup/group.group).closure: semigroup/group/group.go .. 196
namespace C.group.group.closure
def l2 : AC := .seq (.reg [⟨some 25, none, .bin .lss (.r 24) (.r 23)⟩] ([2, 5, 6, 8, 15, 16, 17, 23, 24, 25], [0, 1, 2])) (.seq (.cond (.r 25) .skip (.exit 2 ([2, 5, 6, 15, 16, 17], [0, 1, 2]))) (.seq (.block 3 (.seq (.reg [⟨some 26, none, .mov (.r 24)⟩, ⟨some 9, none, .mov (.r 26)⟩] ([2, 5, 6, 8, 9, 15, 16, 17, 23, 24], [0, 1, 2])) (.seq (.dreg [⟨some 27, none, .fldA 0 1 (.r 2)⟩, ⟨some 28, none, .load 1 false (.r 27)⟩, ⟨some 29, none, .fldA 0 1 (.r 2)⟩, ⟨some 30, none, .load 1 false (.r 29)⟩, ⟨some 31, none, .mov (.r 9)⟩, ⟨some 32, none, .idxA 1 (.r 30) (.r 31)⟩, ⟨some 33, none, .load 1 false (.r 32)⟩, ⟨some 34, none, .mov (.r 8)⟩, ⟨some 35, none, .idxA 1 (.r 33) (.r 34)⟩, ⟨some 36, none, .load 1 false (.r 35)⟩, ⟨some 37, none, .idxA 1 (.r 28) (.r 36)⟩, ⟨some 38, none, .load 1 false (.r 37)⟩, ⟨some 39, none, .fldA 2 1 (.r 2)⟩, ⟨some 40, none, .load 1 false (.r 39)⟩, ⟨some 41, none, .mov (.r 9)⟩, ⟨some 42, none, .idxA 1 (.r 40) (.r 41)⟩, ⟨some 43, none, .load 1 false (.r 42)⟩, ⟨some 44, none, .idxA 1 (.r 38) (.r 43)⟩, ⟨some 45, none, .load 1 false (.r 44)⟩, ⟨some 10, none, .mov (.r 45)⟩] (List.replicate 20 ⟨none, []⟩) ([2, 5, 6, 8, 10, 15, 16, 17, 23, 24], [0, 1, 2])) (.seq (.reg [⟨some 46, none, .mov (.r 5)⟩, ⟨some 47, none, .mov (.r 10)⟩, ⟨some 48, none, .idxA 1 (.r 46) (.r 47)⟩, ⟨some 49, none, .load 1 false (.r 48)⟩, ⟨some 50, none, .un .not (.r 49)⟩] ([2, 5, 6, 8, 10, 15, 16, 17, 23, 24, 50], [0, 1, 2])) (.cond (.r 50) (.seq (.reg [⟨some 51, none, .mov (.r 5)⟩, ⟨some 52, none, .mov (.r 10)⟩, ⟨some 53, none, .idxA 1 (.r 51) (.r 52)⟩, ⟨none, none, .store 1 (.r 53) (.k (.bool true))⟩] ([2, 5, 6, 8, 10, 15, 16, 17, 23, 24], [0, 1, 2])) (.reg [⟨some 54, none, .mov (.r 6)⟩, ⟨some 55, none, .mov (.r 10)⟩, ⟨some 56, none, .sl 3 Tint 1 1 [.int .i64 0] [(0, (.r 55))]⟩, ⟨some 57, none, .app 1000000 Tint 1 8 (.r 54) (.r 56)⟩, ⟨some 6, none, .mov (.r 57)⟩] ([2, 5, 6, 8, 15, 16, 17, 23, 24], [0, 1, 2]))) .skip))))) (.reg [⟨some 58, none, .bin .add (.r 24) (.k (.int .i64 1))⟩, ⟨some 24, none, .mov (.r 58)⟩] ([2, 5, 6, 8, 15, 16, 17, 23, 24], [0, 1, 2]))))
abbrev L2 : AC := .loop l2 ([2, 5, 6, 8, 15, 16, 17, 23, 24], [0, 1, 2])
def l0 : AC := .seq (.reg [⟨some 18, none, .bin .lss (.r 17) (.r 16)⟩] ([2, 5, 6, 15, 16, 17, 18], [0, 1, 2])) (.seq (.cond (.r 18) .skip (.exit 0 ([2, 6], [0, 2]))) (.seq (.block 1 (.seq (.reg [⟨some 19, none, .idxA 1 (.r 15) (.r 17)⟩, ⟨some 20, none, .load 1 false (.r 19)⟩, ⟨some 8, none, .mov (.r 20)⟩] ([2, 5, 6, 8, 15, 16, 17], [0, 1, 2])) (.seq (.reg [⟨some 21, none, .fldA 0 1 (.r 2)⟩, ⟨some 22, none, .load 1 false (.r 21)⟩, ⟨some 23, none, .len (.r 22)⟩, ⟨some 24, none, .mov (.k (.int .i64 0))⟩] ([2, 5, 6, 8, 15, 16, 17, 23, 24], [0, 1, 2])) (.block 2 (.loop l2 ([2, 5, 6, 8, 15, 16, 17, 23, 24], [0, 1, 2])))))) (.reg [⟨some 59, none, .bin .add (.r 17) (.k (.int .i64 1))⟩, ⟨some 17, none, .mov (.r 59)⟩] ([2, 5, 6, 15, 16, 17], [0, 1, 2]))))
abbrev L0 : AC := .loop l0 ([2, 5, 6, 15, 16, 17], [0, 1, 2])
def top : AC := .seq (.reg [⟨some 2, none, .box 0 Tgroup_group 3 (.r 0)⟩, ⟨some 4, none, .nilf true 1⟩] ([1, 2], [0])) (.seq (.reg [⟨some 11, none, .fldA 0 1 (.r 2)⟩, ⟨some 12, none, .load 1 false (.r 11)⟩, ⟨some 13, none, .len (.r 12)⟩, ⟨some 14, none, .mk 1 Tbool 1 1 [.bool false] (.r 13) (.r 13)⟩, ⟨some 5, none, .mov (.r 14)⟩] ([1, 2, 5], [0, 1])) (.seq (.reg [⟨some 6, none, .nilr 2 Tint 1⟩] ([1, 2, 5, 6], [0, 1, 2])) (.seq (.seq (.reg [⟨some 15, none, .mov (.r 1)⟩, ⟨some 16, none, .len (.r 15)⟩, ⟨some 17, none, .mov (.k (.int .i64 0))⟩] ([2, 5, 6, 15, 16, 17], [0, 1, 2])) (.block 0 (.loop l0 ([2, 5, 6, 15, 16, 17], [0, 1, 2])))) (.seq (.reg [⟨some 60, none, .load 3 true (.r 2)⟩, ⟨some 61, none, .mov (.r 6)⟩, ⟨some 62, none, .call F_group_group_generate [(.r 60), (.r 61)]⟩, ⟨some 4, none, .mov (.r 62)⟩] ([4], [])) .ret))))
def anno : Anno := ⟨4, [(0, 0, 0), (0, 1, 1000000), (1, 3, 1), (2, 0, 2), (12, 2, 3)], [(0, ([1, 2], [0])), (1, ([1, 2, 5], [0, 1])), (2, ([1, 2, 5, 6], [0, 1, 2])), (3, ([2, 5, 6, 15, 16, 17], [0, 1, 2])), (4, ([2, 5, 6, 15, 16, 17, 18], [0, 1, 2])), (5, ([2, 5, 6, 8, 15, 16, 17], [0, 1, 2])), (6, ([2, 5, 6, 8, 15, 16, 17, 23, 24], [0, 1, 2])), (7, ([2, 5, 6, 8, 15, 16, 17, 23, 24, 25], [0, 1, 2])), (8, ([2, 5, 6, 8, 9, 15, 16, 17, 23, 24], [0, 1, 2])), (9, ([2, 5, 6, 8, 10, 15, 16, 17, 23, 24], [0, 1, 2])), (10, ([2, 5, 6, 8, 10, 15, 16, 17, 23, 24, 50], [0, 1, 2])), (11, ([2, 5, 6, 8, 10, 15, 16, 17, 23, 24], [0, 1, 2])), (12, ([2, 5, 6, 8, 15, 16, 17, 23, 24], [0, 1, 2])), (13, ([2, 5, 6, 8, 15, 16, 17, 23, 24], [0, 1, 2])), (14, ([2, 5, 6, 15, 16, 17], [0, 1, 2])), (15, ([4], []))], [(0, ([2, 5, 6, 15, 16, 17], [0, 1, 2])), (2, ([2, 5, 6, 8, 15, 16, 17, 23, 24], [0, 1, 2]))], [(0, ([2, 6], [0, 2])), (1, ([2, 5, 6, 15, 16, 17], [0, 1, 2])), (2, ([2, 5, 6, 15, 16, 17], [0, 1, 2])), (3, ([2, 5, 6, 8, 15, 16, 17, 23, 24], [0, 1, 2]))], [(9, List.replicate 20 ⟨none, []⟩)]⟩
def rs : List RV := [.tm 4]
theorem comp_ : f47.body.bind (compile prog anno) = some top := by kernel_rfl
theorem rs_ : rvsOf prog f47.results.toList = some rs := by kernel_rfl
theorem fkS {es : List Ent} {ss : List Spe} (h : Fks prog es) (hs : Fsps prog ss) {leak : Bool} {R : List AV → AV → Prop} (k : ∀ args r, R args r → Run (ctx es ss) top rs 63 4 args r ∧ (leak = false → Fr r)) : Fk prog ⟨47, leak, R⟩ := fk_of h hs mix_ (by kernel_rfl : prog.funcs[47]? = some f47) (by kernel_rfl) comp_ rs_ k
theorem fk {es : List Ent} (h : Fks prog es) {leak : Bool} {R : List AV → AV → Prop} (k : ∀ args r, R args r → Run (ctx es) top rs 63 4 args r ∧ (leak = false → Fr r)) : Fk prog ⟨47, leak, R⟩ := fkS (ss := []) h trivial k
end C.group.group.closure
-- semigroup/semigroupref14.Valid: semigroup/semigroupref14/ref.go .. 55
namespace C.ref14.Valid
def top : AC := .seq (.reg [⟨some 2, none, .mov (.k (.bool false))⟩] ([0], [])) (.seq (.reg [⟨some 3, none, .mov (.r 0)⟩, ⟨some 4, none, .call F_ref14_Validate [(.r 3)]⟩, ⟨some 5, none, .bin .eql (.r 4) (.k (.int .i64 0))⟩, ⟨some 2, none, .mov (.r 5)⟩] ([2], [])) .ret)
def anno : Anno := ⟨0, [], [(0, ([0], [])), (1, ([2], []))], [], [], []⟩
def rs : List RV := [.tm 2]
theorem comp_ : f48.body.bind (compile prog anno) = some top := by kernel_rfl
theorem rs_ : rvsOf prog f48.results.toList = some rs := by kernel_rfl
theorem fkS {es : List Ent} {ss : List Spe} (h : Fks prog es) (hs : Fsps prog ss) {leak : Bool} {R : List AV → AV → Prop} (k : ∀ args r, R args r → Run (ctx es ss) top rs 6 0 args r ∧ (leak = false → Fr r)) : Fk prog ⟨48, leak, R⟩ := fk_of h hs mix_ (by kernel_rfl : prog.funcs[48]? = some f48) (by kernel_rfl) comp_ rs_ k
theorem fq {es : List Ent} (h : Fqs prog es) {leak : Bool} {R : List AV → AV → Prop} (hq : quietX (ctxQ es) top = true) (k : ∀ args r, R args r → Run (ctxQ es) top rs 6 0 args r ∧ (leak = false → Fr r)) : Fq prog ⟨48, leak, R⟩ := fq_of h mix_ (by kernel_rfl : prog.funcs[48]? = some f48) (by kernel_rfl) comp_ rs_ hq k
theorem fk {es : List Ent} (h : Fks prog es) {leak : Bool} {R : List AV → AV → Prop} (k : ∀ args r, R args r → Run (ctx es) top rs 6 0 args r ∧ (leak = false → Fr r)) : Fk prog ⟨48, leak, R⟩ := fkS (ss := []) h trivial k
end C.ref14.Valid
-- semigroup/semigroupref14.Identity: semigroup/semigroupref14/ref.go .. 96
namespace C.ref14.Identity
def l2 : AC := .seq (.reg [⟨some 14, none, .bin .lss (.r 13) (.r 12)⟩] ([0, 3, 4, 7, 8, 12, 13, 14], [])) (.seq (.cond (.r 14) .skip (.exit 2 ([0, 3, 4, 7, 8], []))) (.seq (.block 3 (.seq (.reg [⟨some 15, none, .mov (.r 13)⟩, ⟨some 5, none, .mov (.r 15)⟩] ([0, 3, 4, 5, 7, 8, 12, 13], [])) (.reg [⟨some 16, none, .mov (.r 4)⟩, ⟨some 17, none, .mov (.r 16)⟩, ⟨some 18, (some (17, true)), .mov (.r 0)⟩, ⟨some 19, (some (17, true)), .mov (.r 3)⟩, ⟨some 20, (some (17, true)), .idxA 1 (.r 18) (.r 19)⟩, ⟨some 21, (some (17, true)), .load 1 false (.r 20)⟩, ⟨some 22, (some (17, true)), .mov (.r 5)⟩, ⟨some 23, (some (17, true)), .idxA 1 (.r 21) (.r 22)⟩, ⟨some 24, (some (17, true)), .load 1 false (.r 23)⟩, ⟨some 25, (some (17, true)), .mov (.r 5)⟩, ⟨some 26, (some (17, true)), .bin .eql (.r 24) (.r 25)⟩, ⟨some 27, none, .pick (.r 17) (.r 26) (.k (.bool false))⟩, ⟨some 28, none, .mov (.r 27)⟩, ⟨some 29, (some (28, true)), .mov (.r 0)⟩, ⟨some 30, (some (28, true)), .mov (.r 5)⟩, ⟨some 31, (some (28, true)), .idxA 1 (.r 29) (.r 30)⟩, ⟨some 32, (some (28, true)), .load 1 false (.r 31)⟩, ⟨some 33, (some (28, true)), .mov (.r 3)⟩, ⟨some 34, (some (28, true)), .idxA 1 (.r 32) (.r 33)⟩, ⟨some 35, (some (28, true)), .load 1 false (.r 34)⟩, ⟨some 36, (some (28, true)), .mov (.r 5)⟩, ⟨some 37, (some (28, true)), .bin .eql (.r 35) (.r 36)⟩, ⟨some 38, none, .pick (.r 28) (.r 37) (.k (.bool false))⟩, ⟨some 4, none, .mov (.r 38)⟩] ([0, 3, 4, 7, 8, 12, 13], [])))) (.reg [⟨some 39, none, .bin .add (.r 13) (.k (.int .i64 1))⟩, ⟨some 13, none, .mov (.r 39)⟩] ([0, 3, 4, 7, 8, 12, 13], []))))
abbrev L2 : AC := .loop l2 ([0, 3, 4, 7, 8, 12, 13], [])
def l0 : AC := .seq (.reg [⟨some 9, none, .bin .lss (.r 8) (.r 7)⟩] ([0, 7, 8, 9], [])) (.seq (.cond (.r 9) .skip (.exit 0 ([], []))) (.seq (.block 1 (.seq (.reg [⟨some 10, none, .mov (.r 8)⟩, ⟨some 3, none, .mov (.r 10)⟩] ([0, 3, 7, 8], [])) (.seq (.reg [⟨some 4, none, .mov (.k (.bool true))⟩] ([0, 3, 4, 7, 8], [])) (.seq (.seq (.reg [⟨some 11, none, .mov (.r 0)⟩, ⟨some 12, none, .len (.r 11)⟩, ⟨some 13, none, .mov (.k (.int .i64 0))⟩] ([0, 3, 4, 7, 8, 12, 13], [])) (.block 2 (.loop l2 ([0, 3, 4, 7, 8, 12, 13], [])))) (.seq (.reg [⟨some 40, none, .mov (.r 4)⟩] ([0, 3, 7, 8, 40], [])) (.cond (.r 40) (.seq (.reg [⟨some 41, none, .mov (.r 3)⟩, ⟨some 2, none, .mov (.r 41)⟩] ([2], [])) .ret) .skip)))))) (.reg [⟨some 42, none, .bin .add (.r 8) (.k (.int .i64 1))⟩, ⟨some 8, none, .mov (.r 42)⟩] ([0, 7, 8], []))))
abbrev L0 : AC := .loop l0 ([0, 7, 8], [])
def top : AC := .seq (.reg [⟨some 2, none, .mov (.k (.int .i64 0))⟩] ([0], [])) (.seq (.seq (.reg [⟨some 6, none, .mov (.r 0)⟩, ⟨some 7, none, .len (.r 6)⟩, ⟨some 8, none, .mov (.k (.int .i64 0))⟩] ([0, 7, 8], [])) (.block 0 (.loop l0 ([0, 7, 8], [])))) (.seq (.reg [⟨some 2, none, .mov (.k (.int .i64 (-1)))⟩] ([2], [])) .ret))
def anno : Anno := ⟨0, [], [(0, ([0], [])), (1, ([0, 7, 8], [])), (2, ([0, 7, 8, 9], [])), (3, ([0, 3, 7, 8], [])), (4, ([0, 3, 4, 7, 8], [])), (5, ([0, 3, 4, 7, 8, 12, 13], [])), (6, ([0, 3, 4, 7, 8, 12, 13, 14], [])), (7, ([0, 3, 4, 5, 7, 8, 12, 13], [])), (8, ([0, 3, 4, 7, 8, 12, 13], [])), (9, ([0, 3, 4, 7, 8, 12, 13], [])), (10, ([0, 3, 7, 8, 40], [])), (11, ([2], [])), (12, ([0, 7, 8], [])), (13, ([2], []))], [(0, ([0, 7, 8], [])), (2, ([0, 3, 4, 7, 8, 12, 13], []))], [(0, ([], [])), (1, ([0, 7, 8], [])), (2, ([0, 3, 4, 7, 8], [])), (3, ([0, 3, 4, 7, 8, 12, 13], []))], []⟩
def rs : List RV := [.tm 2]
theorem comp_ : f49.body.bind (compile prog anno) = some top := by kernel_rfl
theorem rs_ : rvsOf prog f49.results.toList = some rs := by kernel_rfl
theorem fkS {es : List Ent} {ss : List Spe} (h : Fks prog es) (hs : Fsps prog ss) {leak : Bool} {R : List AV → AV → Prop} (k : ∀ args r, R args r → Run (ctx es ss) top rs 43 0 args r ∧ (leak = false → Fr r)) : Fk prog ⟨49, leak, R⟩ := fk_of h hs mix_ (by kernel_rfl : prog.funcs[49]? = some f49) (by kernel_rfl) comp_ rs_ k
theorem fq {es : List Ent} (h : Fqs prog es) {leak : Bool} {R : List AV → AV → Prop} (hq : quietX (ctxQ es) top = true) (k : ∀ args r, R args r → Run (ctxQ es) top rs 43 0 args r ∧ (leak = false → Fr r)) : Fq prog ⟨49, leak, R⟩ := fq_of h mix_ (by kernel_rfl : prog.funcs[49]? = some f49) (by kernel_rfl) comp_ rs_ hq k
theorem fk {es : List Ent} (h : Fks prog es) {leak : Bool} {R : List AV → AV → Prop} (k : ∀ args r, R args r → Run (ctx es) top rs 43 0 args r ∧ (leak = false → Fr r)) : Fk prog ⟨49, leak, R⟩ := fkS (ss := []) h trivial k
end C.ref14.Identity
-- semigroup/semigroupref16.Inverse: semigroup/semigroupref16/ref.go .. 33
namespace C.ref16.Inverse
def l0 : AC := .seq (.reg [⟨some 12, none, .bin .lss (.r 11) (.r 10)⟩] ([0, 1, 5, 10, 11, 12], [])) (.seq (.cond (.r 12) .skip (.exit 0 ([], []))) (.seq (.block 1 (.seq (.reg [⟨some 13, none, .mov (.r 11)⟩, ⟨some 6, none, .mov (.r 13)⟩] ([0, 1, 5, 6, 10, 11], [])) (.seq (.reg [⟨some 14, none, .mov (.r 0)⟩, ⟨some 15, none, .mov (.r 1)⟩, ⟨some 16, none, .idxA 1 (.r 14) (.r 15)⟩, ⟨some 17, none, .load 1 false (.r 16)⟩, ⟨some 18, none, .mov (.r 6)⟩, ⟨some 19, none, .idxA 1 (.r 17) (.r 18)⟩, ⟨some 20, none, .load 1 false (.r 19)⟩, ⟨some 21, none, .mov (.r 5)⟩, ⟨some 22, none, .bin .eql (.r 20) (.r 21)⟩, ⟨some 23, none, .mov (.r 22)⟩, ⟨some 24, (some (23, true)), .mov (.r 0)⟩, ⟨some 25, (some (23, true)), .mov (.r 6)⟩, ⟨some 26, (some (23, true)), .idxA 1 (.r 24) (.r 25)⟩, ⟨some 27, (some (23, true)), .load 1 false (.r 26)⟩, ⟨some 28, (some (23, true)), .mov (.r 1)⟩, ⟨some 29, (some (23, true)), .idxA 1 (.r 27) (.r 28)⟩, ⟨some 30, (some (23, true)), .load 1 false (.r 29)⟩, ⟨some 31, (some (23, true)), .mov (.r 5)⟩, ⟨some 32, (some (23, true)), .bin .eql (.r 30) (.r 31)⟩, ⟨some 33, none, .pick (.r 23) (.r 32) (.k (.bool false))⟩] ([0, 1, 5, 6, 10, 11, 33], [])) (.cond (.r 33) (.seq (.reg [⟨some 34, none, .mov (.r 6)⟩, ⟨some 4, none, .mov (.r 34)⟩] ([4], [])) .ret) .skip)))) (.reg [⟨some 35, none, .bin .add (.r 11) (.k (.int .i64 1))⟩, ⟨some 11, none, .mov (.r 35)⟩] ([0, 1, 5, 10, 11], []))))
abbrev L0 : AC := .loop l0 ([0, 1, 5, 10, 11], [])
def top : AC := .seq (.reg [⟨some 4, none, .mov (.k (.int .i64 0))⟩] ([0, 1], [])) (.seq (.reg [⟨some 7, none, .mov (.r 0)⟩, ⟨some 8, none, .call F_ref14_Identity [(.r 7)]⟩, ⟨some 5, none, .mov (.r 8)⟩] ([0, 1, 5], [])) (.seq (.seq (.reg [⟨some 9, none, .mov (.r 0)⟩, ⟨some 10, none, .len (.r 9)⟩, ⟨some 11, none, .mov (.k (.int .i64 0))⟩] ([0, 1, 5, 10, 11], [])) (.block 0 (.loop l0 ([0, 1, 5, 10, 11], [])))) (.seq (.reg [⟨some 4, none, .mov (.k (.int .i64 (-1)))⟩] ([4], [])) .ret)))
def anno : Anno := ⟨0, [], [(0, ([0, 1], [])), (1, ([0, 1, 5], [])), (2, ([0, 1, 5, 10, 11], [])), (3, ([0, 1, 5, 10, 11, 12], [])), (4, ([0, 1, 5, 6, 10, 11], [])), (5, ([0, 1, 5, 6, 10, 11, 33], [])), (6, ([4], [])), (7, ([0, 1, 5, 10, 11], [])), (8, ([4], []))], [(0, ([0, 1, 5, 10, 11], []))], [(0, ([], [])), (1, ([0, 1, 5, 10, 11], []))], []⟩
def rs : List RV := [.tm 4]
theorem comp_ : f50.body.bind (compile prog anno) = some top := by kernel_rfl
theorem rs_ : rvsOf prog f50.results.toList = some rs := by kernel_rfl
theorem fkS {es : List Ent} {ss : List Spe} (h : Fks prog es) (hs : Fsps prog ss) {leak : Bool} {R : List AV → AV → Prop} (k : ∀ args r, R args r → Run (ctx es ss) top rs 36 0 args r ∧ (leak = false → Fr r)) : Fk prog ⟨50, leak, R⟩ := fk_of h hs mix_ (by kernel_rfl : prog.funcs[50]? = some f50) (by kernel_rfl) comp_ rs_ k
theorem fq {es : List Ent} (h : Fqs prog es) {leak : Bool} {R : List AV → AV → Prop} (hq : quietX (ctxQ es) top = true) (k : ∀ args r, R args r → Run (ctxQ es) top rs 36 0 args r ∧ (leak = false → Fr r)) : Fq prog ⟨50, leak, R⟩ := fq_of h mix_ (by kernel_rfl : prog.funcs[50]? = some f50) (by kernel_rfl) comp_ rs_ hq k
theorem fk {es : List Ent} (h : Fks prog es) {leak : Bool} {R : List AV → AV → Prop} (k : ∀ args r, R args r → Run (ctx es) top rs 36 0 args r ∧ (leak = false → Fr r)) : Fk prog ⟨50, leak, R⟩ := fkS (ss := []) h trivial k
end C.ref16.Inverse
-- semigroup/semigroupref14.Generated: semigroup/semigroupref14/ref.go .. 217
namespace C.ref14.Generated
def l4 : AC := .seq (.reg [⟨some 22, none, .bin .lss (.r 21) (.r 20)⟩] ([0, 5, 6, 7, 15, 16, 20, 21, 22], [0])) (.seq (.cond (.r 22) .skip (.exit 4 ([0, 5, 6, 15, 16], [0]))) (.seq (.block 5 (.seq (.reg [⟨some 23, none, .mov (.r 21)⟩, ⟨some 8, none, .mov (.r 23)⟩] ([0, 5, 6, 7, 8, 15, 16, 20, 21], [0])) (.seq (.reg [⟨some 24, none, .mov (.r 5)⟩, ⟨some 25, none, .mov (.r 7)⟩, ⟨some 26, none, .idxA 1 (.r 24) (.r 25)⟩, ⟨some 27, none, .load 1 false (.r 26)⟩, ⟨some 28, none, .mov (.r 27)⟩, ⟨some 29, (some (28, true)), .mov (.r 5)⟩, ⟨some 30, (some (28, true)), .mov (.r 8)⟩, ⟨some 31, (some (28, true)), .idxA 1 (.r 29) (.r 30)⟩, ⟨some 32, (some (28, true)), .load 1 false (.r 31)⟩, ⟨some 33, none, .pick (.r 28) (.r 32) (.k (.bool false))⟩, ⟨some 34, none, .mov (.r 33)⟩, ⟨some 35, (some (34, true)), .mov (.r 5)⟩, ⟨some 36, (some (34, true)), .mov (.r 0)⟩, ⟨some 37, (some (34, true)), .mov (.r 7)⟩, ⟨some 38, (some (34, true)), .idxA 1 (.r 36) (.r 37)⟩, ⟨some 39, (some (34, true)), .load 1 false (.r 38)⟩, ⟨some 40, (some (34, true)), .mov (.r 8)⟩, ⟨some 41, (some (34, true)), .idxA 1 (.r 39) (.r 40)⟩, ⟨some 42, (some (34, true)), .load 1 false (.r 41)⟩, ⟨some 43, (some (34, true)), .idxA 1 (.r 35) (.r 42)⟩, ⟨some 44, (some (34, true)), .load 1 false (.r 43)⟩, ⟨some 45, (some (34, true)), .un .not (.r 44)⟩, ⟨some 46, none, .pick (.r 34) (.r 45) (.k (.bool false))⟩] ([0, 5, 6, 7, 8, 15, 16, 20, 21, 46], [0])) (.cond (.r 46) (.seq (.reg [⟨some 47, none, .mov (.r 5)⟩, ⟨some 48, none, .mov (.r 0)⟩, ⟨some 49, none, .mov (.r 7)⟩, ⟨some 50, none, .idxA 1 (.r 48) (.r 49)⟩, ⟨some 51, none, .load 1 false (.r 50)⟩, ⟨some 52, none, .mov (.r 8)⟩, ⟨some 53, none, .idxA 1 (.r 51) (.r 52)⟩, ⟨some 54, none, .load 1 false (.r 53)⟩, ⟨some 55, none, .idxA 1 (.r 47) (.r 54)⟩, ⟨none, none, .store 1 (.r 55) (.k (.bool true))⟩] ([0, 5, 7, 15, 16, 20, 21], [0])) (.reg [⟨some 6, none, .mov (.k (.bool true))⟩] ([0, 5, 6, 7, 15, 16, 20, 21], [0]))) .skip)))) (.reg [⟨some 56, none, .bin .add (.r 21) (.k (.int .i64 1))⟩, ⟨some 21, none, .mov (.r 56)⟩] ([0, 5, 6, 7, 15, 16, 20, 21], [0]))))
abbrev L4 : AC := .loop l4 ([0, 5, 6, 7, 15, 16, 20, 21], [0])
def l2 : AC := .seq (.reg [⟨some 17, none, .bin .lss (.r 16) (.r 15)⟩] ([0, 5, 6, 15, 16, 17], [0])) (.seq (.cond (.r 17) .skip (.exit 2 ([0, 5, 6], [0]))) (.seq (.block 3 (.seq (.reg [⟨some 18, none, .mov (.r 16)⟩, ⟨some 7, none, .mov (.r 18)⟩] ([0, 5, 6, 7, 15, 16], [0])) (.seq (.reg [⟨some 19, none, .mov (.r 0)⟩, ⟨some 20, none, .len (.r 19)⟩, ⟨some 21, none, .mov (.k (.int .i64 0))⟩] ([0, 5, 6, 7, 15, 16, 20, 21], [0])) (.block 4 (.loop l4 ([0, 5, 6, 7, 15, 16, 20, 21], [0])))))) (.reg [⟨some 57, none, .bin .add (.r 16) (.k (.int .i64 1))⟩, ⟨some 16, none, .mov (.r 57)⟩] ([0, 5, 6, 15, 16], [0]))))
abbrev L2 : AC := .loop l2 ([0, 5, 6, 15, 16], [0])
def l0 : AC := .seq (.seq (.reg [⟨some 13, none, .mov (.r 6)⟩] ([0, 5, 13], [0])) (.cond (.r 13) .skip (.exit 0 ([5], [0])))) (.block 1 (.seq (.reg [⟨some 6, none, .mov (.k (.bool false))⟩] ([0, 5, 6], [0])) (.seq (.reg [⟨some 14, none, .mov (.r 0)⟩, ⟨some 15, none, .len (.r 14)⟩, ⟨some 16, none, .mov (.k (.int .i64 0))⟩] ([0, 5, 6, 15, 16], [0])) (.block 2 (.loop l2 ([0, 5, 6, 15, 16], [0]))))))
abbrev L0 : AC := .loop l0 ([0, 5, 6], [0])
def top : AC := .seq (.reg [⟨some 4, none, .nilf true 1⟩] ([0, 1], [])) (.seq (.reg [⟨some 9, none, .mov (.r 1)⟩, ⟨some 10, none, .mov (.r 0)⟩, ⟨some 11, none, .len (.r 10)⟩, ⟨some 12, none, .call F_ref03_Set [(.r 9), (.r 11)]⟩, ⟨some 5, none, .mov (.r 12)⟩] ([0, 5], [0])) (.seq (.seq (.reg [⟨some 6, none, .mov (.k (.bool true))⟩] ([0, 5, 6], [0])) (.block 0 (.loop l0 ([0, 5, 6], [0])))) (.seq (.reg [⟨some 58, none, .mov (.r 5)⟩, ⟨some 59, none, .call F_ref03_Members [(.r 58)]⟩, ⟨some 4, none, .mov (.r 59)⟩] ([4], [])) .ret)))
def anno : Anno := ⟨1, [(0, 0, 1000000), (1, 3, 0)], [(0, ([0, 1], [])), (1, ([0, 5], [0])), (2, ([0, 5, 6], [0])), (3, ([0, 5, 13], [0])), (4, ([0, 5, 6], [0])), (5, ([0, 5, 6, 15, 16], [0])), (6, ([0, 5, 6, 15, 16, 17], [0])), (7, ([0, 5, 6, 7, 15, 16], [0])), (8, ([0, 5, 6, 7, 15, 16, 20, 21], [0])), (9, ([0, 5, 6, 7, 15, 16, 20, 21, 22], [0])), (10, ([0, 5, 6, 7, 8, 15, 16, 20, 21], [0])), (11, ([0, 5, 6, 7, 8, 15, 16, 20, 21, 46], [0])), (12, ([0, 5, 7, 15, 16, 20, 21], [0])), (13, ([0, 5, 6, 7, 15, 16, 20, 21], [0])), (14, ([0, 5, 6, 7, 15, 16, 20, 21], [0])), (15, ([0, 5, 6, 15, 16], [0])), (16, ([4], []))], [(0, ([0, 5, 6], [0])), (2, ([0, 5, 6, 15, 16], [0])), (4, ([0, 5, 6, 7, 15, 16, 20, 21], [0]))], [(0, ([5], [0])), (1, ([0, 5, 6], [0])), (2, ([0, 5, 6], [0])), (3, ([0, 5, 6, 15, 16], [0])), (4, ([0, 5, 6, 15, 16], [0])), (5, ([0, 5, 6, 7, 15, 16, 20, 21], [0]))], []⟩
def rs : List RV := [.tm 4]
theorem comp_ : f51.body.bind (compile prog anno) = some top := by kernel_rfl
theorem rs_ : rvsOf prog f51.results.toList = some rs := by kernel_rfl
theorem fkS {es : List Ent} {ss : List Spe} (h : Fks prog es) (hs : Fsps prog ss) {leak : Bool} {R : List AV → AV → Prop} (k : ∀ args r, R args r → Run (ctx es ss) top rs 60 1 args r ∧ (leak = false → Fr r)) : Fk prog ⟨51, leak, R⟩ := fk_of h hs mix_ (by kernel_rfl : prog.funcs[51]? = some f51) (by kernel_rfl) comp_ rs_ k
theorem fk {es : List Ent} (h : Fks prog es) {leak : Bool} {R : List AV → AV → Prop} (k : ∀ args r, R args r → Run (ctx es) top rs 60 1 args r ∧ (leak = false → Fr r)) : Fk prog ⟨51, leak, R⟩ := fkS (ss := []) h trivial k
end C.ref14.Generated
-- semigroup/semigroupref03.Discrete: semigroup/semigroupref03/ref.go .. 90
namespace C.ref03.Discrete
def l0 : AC := .seq (.reg [⟨some 10, none, .bin .lss (.r 9) (.r 8)⟩] ([3, 8, 9, 10], [0])) (.seq (.cond (.r 10) .skip (.exit 0 ([3], [0]))) (.seq (.block 1 (.seq (.reg [⟨some 11, none, .mov (.r 9)⟩, ⟨some 4, none, .mov (.r 11)⟩] ([3, 4, 8, 9], [0])) (.reg [⟨some 12, none, .mov (.r 3)⟩, ⟨some 13, none, .mov (.r 4)⟩, ⟨some 14, none, .mov (.r 4)⟩, ⟨some 15, none, .idxA 1 (.r 12) (.r 13)⟩, ⟨none, none, .store 1 (.r 15) (.r 14)⟩] ([3, 8, 9], [0])))) (.reg [⟨some 16, none, .bin .add (.r 9) (.k (.int .i64 1))⟩, ⟨some 9, none, .mov (.r 16)⟩] ([3, 8, 9], [0]))))
abbrev L0 : AC := .loop l0 ([3, 8, 9], [0])
def top : AC := .seq (.reg [⟨some 2, none, .nilf true 1⟩] ([0], [])) (.seq (.reg [⟨some 5, none, .mov (.r 0)⟩, ⟨some 6, none, .mk 0 Tint 1 8 [.int .i64 0] (.r 5) (.r 5)⟩, ⟨some 3, none, .mov (.r 6)⟩] ([3], [0])) (.seq (.seq (.reg [⟨some 7, none, .mov (.r 3)⟩, ⟨some 8, none, .len (.r 7)⟩, ⟨some 9, none, .mov (.k (.int .i64 0))⟩] ([3, 8, 9], [0])) (.block 0 (.loop l0 ([3, 8, 9], [0])))) (.seq (.reg [⟨some 17, none, .mov (.r 3)⟩, ⟨some 2, none, .mov (.r 17)⟩] ([2], [0])) .ret)))
def anno : Anno := ⟨1, [(0, 0, 1000000), (1, 1, 0)], [(0, ([0], [])), (1, ([3], [0])), (2, ([3, 8, 9], [0])), (3, ([3, 8, 9, 10], [0])), (4, ([3, 4, 8, 9], [0])), (5, ([3, 8, 9], [0])), (6, ([3, 8, 9], [0])), (7, ([2], [0]))], [(0, ([3, 8, 9], [0]))], [(0, ([3], [0])), (1, ([3, 8, 9], [0]))], []⟩
def rs : List RV := [.tm 2]
theorem comp_ : f52.body.bind (compile prog anno) = some top := by kernel_rfl
theorem rs_ : rvsOf prog f52.results.toList = some rs := by kernel_rfl
theorem fkS {es : List Ent} {ss : List Spe} (h : Fks prog es) (hs : Fsps prog ss) {leak : Bool} {R : List AV → AV → Prop} (k : ∀ args r, R args r → Run (ctx es ss) top rs 18 1 args r ∧ (leak = false → Fr r)) : Fk prog ⟨52, leak, R⟩ := fk_of h hs mix_ (by kernel_rfl : prog.funcs[52]? = some f52) (by kernel_rfl) comp_ rs_ k
theorem fk {es : List Ent} (h : Fks prog es) {leak : Bool} {R : List AV → AV → Prop} (k : ∀ args r, R args r → Run (ctx es) top rs 18 1 args r ∧ (leak = false → Fr r)) : Fk prog ⟨52, leak, R⟩ := fkS (ss := []) h trivial k
end C.ref03.Discrete
-- semigroup/mult.Validate: semigroup/mult/mult.go .. 53
namespace C.mult.Validate
def top : AC := .seq (.reg [⟨some 2, none, .mov (.k (.int .i64 0))⟩] ([0], [])) (.seq (.seq (.reg [⟨some 8, none, .mov (.r 0)⟩, ⟨some 9, none, .call F_mult_shape [(.r 8)]⟩, ⟨some 3, none, .mov (.r 9)⟩] ([0, 3], [])) (.seq (.reg [⟨some 10, none, .mov (.r 3)⟩, ⟨some 11, none, .bin .neq (.r 10) (.k (.int .i64 0))⟩] ([0, 3, 11], [])) (.cond (.r 11) (.seq (.reg [⟨some 12, none, .mov (.r 3)⟩, ⟨some 2, none, .mov (.r 12)⟩] ([2], [])) .ret) .skip))) (.seq (.seq (.reg [⟨some 14, none, .mov (.r 0)⟩, ⟨some 15, none, .call F_mult_failing [(.r 14)]⟩, ⟨some 13, none, .mov (.r 15)⟩, ⟨some 16, none, .ext 0 (.r 13)⟩, ⟨some 17, none, .ext 1 (.r 13)⟩, ⟨some 18, none, .ext 2 (.r 13)⟩, ⟨some 19, none, .ext 3 (.r 13)⟩, ⟨some 4, none, .mov (.r 16)⟩, ⟨some 5, none, .mov (.r 17)⟩, ⟨some 6, none, .mov (.r 18)⟩, ⟨some 7, none, .mov (.r 19)⟩] ([7], [])) (.seq (.reg [⟨some 20, none, .mov (.r 7)⟩] ([20], [])) (.cond (.r 20) (.seq (.reg [⟨some 2, none, .mov (.k (.int .i64 5))⟩] ([2], [])) .ret) .skip))) (.seq (.reg [⟨some 2, none, .mov (.k (.int .i64 0))⟩] ([2], [])) .ret)))
def anno : Anno := ⟨0, [], [(0, ([0], [])), (1, ([0, 3], [])), (2, ([0, 3, 11], [])), (3, ([2], [])), (4, ([7], [])), (5, ([20], [])), (6, ([2], [])), (7, ([2], []))], [], [], []⟩
def rs : List RV := [.tm 2]
theorem comp_ : f53.body.bind (compile prog anno) = some top := by kernel_rfl
theorem rs_ : rvsOf prog f53.results.toList = some rs := by kernel_rfl
theorem fkS {es : List Ent} {ss : List Spe} (h : Fks prog es) (hs : Fsps prog ss) {leak : Bool} {R : List AV → AV → Prop} (k : ∀ args r, R args r → Run (ctx es ss) top rs 21 0 args r ∧ (leak = false → Fr r)) : Fk prog ⟨53, leak, R⟩ := fk_of h hs mix_ (by kernel_rfl : prog.funcs[53]? = some f53) (by kernel_rfl) comp_ rs_ k
theorem fq {es : List Ent} (h : Fqs prog es) {leak : Bool} {R : List AV → AV → Prop} (hq : quietX (ctxQ es) top = true) (k : ∀ args r, R args r → Run (ctxQ es) top rs 21 0 args r ∧ (leak = false → Fr r)) : Fq prog ⟨53, leak, R⟩ := fq_of h mix_ (by kernel_rfl : prog.funcs[53]? = some f53) (by kernel_rfl) comp_ rs_ hq k
theorem fk {es : List Ent} (h : Fks prog es) {leak : Bool} {R : List AV → AV → Prop} (k : ∀ args r, R args r → Run (ctx es) top rs 21 0 args r ∧ (leak = false → Fr r)) : Fk prog ⟨53, leak, R⟩ := fkS (ss := []) h trivial k
end C.mult.Validate
-- semigroup/group.key: semigroup/group/group.go .. 219
namespace C.group.key
def l0 : AC := .seq (.reg [⟨some 13, none, .bin .lss (.r 12) (.r 11)⟩] ([3, 10, 11, 12, 13], [0])) (.seq (.cond (.r 13) .skip (.exit 0 ([3], [0]))) (.seq (.block 1 (.seq (.reg [⟨some 14, none, .idxA 1 (.r 10) (.r 12)⟩, ⟨some 15, none, .load 1 false (.r 14)⟩, ⟨some 5, none, .mov (.r 15)⟩] ([3, 5, 10, 11, 12], [0])) (.reg [⟨some 16, none, .mov (.r 3)⟩, ⟨some 17, none, .mov (.r 5)⟩, ⟨some 18, none, .conv .u8 (.r 17)⟩, ⟨some 19, none, .mov (.r 5)⟩, ⟨some 20, none, .bin .shr (.r 19) (.k (.int .u64 8))⟩, ⟨some 21, none, .conv .u8 (.r 20)⟩, ⟨some 22, none, .sl 1 Tuint8 1 2 [.int .u8 0] [(0, (.r 18)), (1, (.r 21))]⟩, ⟨some 23, none, .app 1000000 Tuint8 1 1 (.r 16) (.r 22)⟩, ⟨some 3, none, .mov (.r 23)⟩] ([3, 10, 11, 12], [0])))) (.reg [⟨some 24, none, .bin .add (.r 12) (.k (.int .i64 1))⟩, ⟨some 12, none, .mov (.r 24)⟩] ([3, 10, 11, 12], [0]))))
abbrev L0 : AC := .loop l0 ([3, 10, 11, 12], [0])
def top : AC := .seq (.reg [⟨some 2, none, .mov (.k (.string ⟨#[]⟩))⟩] ([0], [])) (.seq (.reg [⟨some 6, none, .mov (.r 0)⟩, ⟨some 7, none, .len (.r 6)⟩, ⟨some 8, none, .bin .mul (.k (.int .i64 2)) (.r 7)⟩, ⟨some 9, none, .mk 0 Tuint8 1 1 [.int .u8 0] (.k (.int .i64 0)) (.r 8)⟩, ⟨some 3, none, .mov (.r 9)⟩] ([0, 3], [0])) (.seq (.seq (.reg [⟨some 10, none, .mov (.r 0)⟩, ⟨some 11, none, .len (.r 10)⟩, ⟨some 12, none, .mov (.k (.int .i64 0))⟩] ([3, 10, 11, 12], [0])) (.block 0 (.loop l0 ([3, 10, 11, 12], [0])))) (.seq (.reg [⟨some 25, none, .mov (.r 3)⟩, ⟨some 26, none, .b2s (.r 25)⟩, ⟨some 2, none, .mov (.r 26)⟩] ([2], [])) .ret)))
def anno : Anno := ⟨2, [(1, 3, 0), (5, 6, 1)], [(0, ([0], [])), (1, ([0, 3], [0])), (2, ([3, 10, 11, 12], [0])), (3, ([3, 10, 11, 12, 13], [0])), (4, ([3, 5, 10, 11, 12], [0])), (5, ([3, 10, 11, 12], [0])), (6, ([3, 10, 11, 12], [0])), (7, ([2], []))], [(0, ([3, 10, 11, 12], [0]))], [(0, ([3], [0])), (1, ([3, 10, 11, 12], [0]))], []⟩
def rs : List RV := [.tm 2]
theorem comp_ : f54.body.bind (compile prog anno) = some top := by kernel_rfl
theorem rs_ : rvsOf prog f54.results.toList = some rs := by kernel_rfl
theorem fkS {es : List Ent} {ss : List Spe} (h : Fks prog es) (hs : Fsps prog ss) {leak : Bool} {R : List AV → AV → Prop} (k : ∀ args r, R args r → Run (ctx es ss) top rs 27 2 args r ∧ (leak = false → Fr r)) : Fk prog ⟨54, leak, R⟩ := fk_of h hs mix_ (by kernel_rfl : prog.funcs[54]? = some f54) (by kernel_rfl) comp_ rs_ k
theorem fk {es : List Ent} (h : Fks prog es) {leak : Bool} {R : List AV → AV → Prop} (k : ∀ args r, R args r → Run (ctx es) top rs 27 2 args r ∧ (leak = false → Fr r)) : Fk prog ⟨54, leak, R⟩ := fkS (ss := []) h trivial k
end C.group.key
-- (semigroup/group.group).generate: semigroup/group/group.go .. 181
namespace C.group.group.generate
def l2 : AC := .seq (.reg [⟨some 31, none, .bin .lss (.r 30) (.r 29)⟩] ([1, 2, 5, 6, 7, 28, 29, 30, 31], [0, 1, 2])) (.seq (.cond (.r 31) .skip (.exit 2 ([1, 2, 5, 6, 7], [0, 1, 2]))) (.seq (.block 3 (.seq (.reg [⟨some 32, none, .idxA 1 (.r 28) (.r 30)⟩, ⟨some 33, none, .load 1 false (.r 32)⟩, ⟨some 9, none, .mov (.r 33)⟩] ([1, 2, 5, 6, 7, 9, 28, 29, 30], [0, 1, 2])) (.seq (.dreg [⟨some 34, none, .fldA 0 1 (.r 2)⟩, ⟨some 35, none, .load 1 false (.r 34)⟩, ⟨some 36, none, .mov (.r 6)⟩, ⟨some 37, none, .mov (.r 7)⟩, ⟨some 38, none, .idxA 1 (.r 36) (.r 37)⟩, ⟨some 39, none, .load 1 false (.r 38)⟩, ⟨some 40, none, .idxA 1 (.r 35) (.r 39)⟩, ⟨some 41, none, .load 1 false (.r 40)⟩, ⟨some 42, none, .mov (.r 9)⟩, ⟨some 43, none, .idxA 1 (.r 41) (.r 42)⟩, ⟨some 44, none, .load 1 false (.r 43)⟩, ⟨some 10, none, .mov (.r 44)⟩] (List.replicate 12 ⟨none, []⟩) ([1, 2, 5, 6, 7, 10, 28, 29, 30], [0, 1, 2])) (.seq (.reg [⟨some 45, none, .mov (.r 5)⟩, ⟨some 46, none, .mov (.r 10)⟩, ⟨some 47, none, .idxA 1 (.r 45) (.r 46)⟩, ⟨some 48, none, .load 1 false (.r 47)⟩, ⟨some 49, none, .un .not (.r 48)⟩] ([1, 2, 5, 6, 7, 10, 28, 29, 30, 49], [0, 1, 2])) (.cond (.r 49) (.seq (.reg [⟨some 50, none, .mov (.r 5)⟩, ⟨some 51, none, .mov (.r 10)⟩, ⟨some 52, none, .idxA 1 (.r 50) (.r 51)⟩, ⟨none, none, .store 1 (.r 52) (.k (.bool true))⟩] ([1, 2, 5, 6, 7, 10, 28, 29, 30], [0, 1, 2])) (.reg [⟨some 53, none, .mov (.r 6)⟩, ⟨some 54, none, .mov (.r 10)⟩, ⟨some 55, none, .sl 3 Tint 1 1 [.int .i64 0] [(0, (.r 54))]⟩, ⟨some 56, none, .app 1000000 Tint 1 8 (.r 53) (.r 55)⟩, ⟨some 6, none, .mov (.r 56)⟩] ([1, 2, 5, 6, 7, 28, 29, 30], [0, 1, 2]))) .skip))))) (.reg [⟨some 57, none, .bin .add (.r 30) (.k (.int .i64 1))⟩, ⟨some 30, none, .mov (.r 57)⟩] ([1, 2, 5, 6, 7, 28, 29, 30], [0, 1, 2]))))
abbrev L2 : AC := .loop l2 ([1, 2, 5, 6, 7, 28, 29, 30], [0, 1, 2])
def l0 : AC := .seq (.seq (.reg [⟨some 22, none, .mov (.r 7)⟩, ⟨some 23, none, .mov (.r 6)⟩, ⟨some 24, none, .len (.r 23)⟩, ⟨some 25, none, .bin .lss (.r 22) (.r 24)⟩] ([1, 2, 5, 6, 7, 25], [0, 1, 2])) (.cond (.r 25) .skip (.exit 0 ([6], [2])))) (.seq (.block 1 (.seq (.reg [⟨some 28, none, .mov (.r 1)⟩, ⟨some 29, none, .len (.r 28)⟩, ⟨some 30, none, .mov (.k (.int .i64 0))⟩] ([1, 2, 5, 6, 7, 28, 29, 30], [0, 1, 2])) (.block 2 (.loop l2 ([1, 2, 5, 6, 7, 28, 29, 30], [0, 1, 2]))))) (.reg [⟨some 26, none, .mov (.r 7)⟩, ⟨some 27, none, .bin .add (.r 26) (.k (.int .i64 1))⟩, ⟨some 7, none, .mov (.r 27)⟩] ([1, 2, 5, 6, 7], [0, 1, 2])))
abbrev L0 : AC := .loop l0 ([1, 2, 5, 6, 7], [0, 1, 2])
def top : AC := .seq (.reg [⟨some 2, none, .box 0 Tgroup_group 3 (.r 0)⟩, ⟨some 4, none, .nilf true 1⟩] ([1, 2], [0])) (.seq (.reg [⟨some 11, none, .fldA 0 1 (.r 2)⟩, ⟨some 12, none, .load 1 false (.r 11)⟩, ⟨some 13, none, .len (.r 12)⟩, ⟨some 14, none, .mk 1 Tbool 1 1 [.bool false] (.r 13) (.r 13)⟩, ⟨some 5, none, .mov (.r 14)⟩] ([1, 2, 5], [0, 1])) (.seq (.reg [⟨some 15, none, .mov (.r 5)⟩, ⟨some 16, none, .fldA 1 1 (.r 2)⟩, ⟨some 17, none, .load 1 false (.r 16)⟩, ⟨some 18, none, .idxA 1 (.r 15) (.r 17)⟩, ⟨none, none, .store 1 (.r 18) (.k (.bool true))⟩] ([1, 2, 5], [0, 1])) (.seq (.reg [⟨some 19, none, .fldA 1 1 (.r 2)⟩, ⟨some 20, none, .load 1 false (.r 19)⟩, ⟨some 21, none, .sl 2 Tint 1 1 [.int .i64 0] [(0, (.r 20))]⟩, ⟨some 6, none, .mov (.r 21)⟩] ([1, 2, 5, 6], [0, 1, 2])) (.seq (.seq (.reg [⟨some 7, none, .mov (.k (.int .i64 0))⟩] ([1, 2, 5, 6, 7], [0, 1, 2])) (.block 0 (.loop l0 ([1, 2, 5, 6, 7], [0, 1, 2])))) (.seq (.reg [⟨some 58, none, .mov (.r 6)⟩, ⟨some 59, none, .call F_sort_Ints [(.r 58)]⟩] ([6], [2])) (.seq (.reg [⟨some 60, none, .mov (.r 6)⟩, ⟨some 4, none, .mov (.r 60)⟩] ([4], [2])) .ret))))))
def anno : Anno := ⟨4, [(0, 0, 0), (0, 1, 1000000), (1, 3, 1), (3, 2, 2), (13, 2, 3)], [(0, ([1, 2], [0])), (1, ([1, 2, 5], [0, 1])), (2, ([1, 2, 5], [0, 1])), (3, ([1, 2, 5, 6], [0, 1, 2])), (4, ([1, 2, 5, 6, 7], [0, 1, 2])), (5, ([1, 2, 5, 6, 7, 25], [0, 1, 2])), (6, ([1, 2, 5, 6, 7], [0, 1, 2])), (7, ([1, 2, 5, 6, 7, 28, 29, 30], [0, 1, 2])), (8, ([1, 2, 5, 6, 7, 28, 29, 30, 31], [0, 1, 2])), (9, ([1, 2, 5, 6, 7, 9, 28, 29, 30], [0, 1, 2])), (10, ([1, 2, 5, 6, 7, 10, 28, 29, 30], [0, 1, 2])), (11, ([1, 2, 5, 6, 7, 10, 28, 29, 30, 49], [0, 1, 2])), (12, ([1, 2, 5, 6, 7, 10, 28, 29, 30], [0, 1, 2])), (13, ([1, 2, 5, 6, 7, 28, 29, 30], [0, 1, 2])), (14, ([1, 2, 5, 6, 7, 28, 29, 30], [0, 1, 2])), (15, ([6], [2])), (16, ([4], [2]))], [(0, ([1, 2, 5, 6, 7], [0, 1, 2])), (2, ([1, 2, 5, 6, 7, 28, 29, 30], [0, 1, 2]))], [(0, ([6], [2])), (1, ([1, 2, 5, 6, 7], [0, 1, 2])), (2, ([1, 2, 5, 6, 7], [0, 1, 2])), (3, ([1, 2, 5, 6, 7, 28, 29, 30], [0, 1, 2]))], [(10, List.replicate 12 ⟨none, []⟩)]⟩
def rs : List RV := [.tm 4]
theorem comp_ : f55.body.bind (compile prog anno) = some top := by kernel_rfl
theorem rs_ : rvsOf prog f55.results.toList = some rs := by kernel_rfl
theorem fkS {es : List Ent} {ss : List Spe} (h : Fks prog es) (hs : Fsps prog ss) {leak : Bool} {R : List AV → AV → Prop} (k : ∀ args r, R args r → Run (ctx es ss) top rs 61 4 args r ∧ (leak = false → Fr r)) : Fk prog ⟨55, leak, R⟩ := fk_of h hs mix_ (by kernel_rfl : prog.funcs[55]? = some f55) (by kernel_rfl) comp_ rs_ k
theorem fk {es : List Ent} (h : Fks prog es) {leak : Bool} {R : List AV → AV → Prop} (k : ∀ args r, R args r → Run (ctx es) top rs 61 4 args r ∧ (leak = false → Fr r)) : Fk prog ⟨55, leak, R⟩ := fkS (ss := []) h trivial k
end C.group.group.generate
-- semigroup/group.lessList: semigroup/group/group.go .. 229
namespace C.group.lessList
def l0 : AC := .seq (.seq (.reg [⟨some 6, none, .mov (.r 5)⟩, ⟨some 7, none, .mov (.r 0)⟩, ⟨some 8, none, .len (.r 7)⟩, ⟨some 9, none, .bin .lss (.r 6) (.r 8)⟩, ⟨some 10, none, .mov (.r 9)⟩, ⟨some 11, (some (10, true)), .mov (.r 5)⟩, ⟨some 12, (some (10, true)), .mov (.r 1)⟩, ⟨some 13, (some (10, true)), .len (.r 12)⟩, ⟨some 14, (some (10, true)), .bin .lss (.r 11) (.r 13)⟩, ⟨some 15, none, .pick (.r 10) (.r 14) (.k (.bool false))⟩] ([0, 1, 5, 15], [])) (.cond (.r 15) .skip (.exit 0 ([0, 1], [])))) (.seq (.block 1 (.seq (.dreg [⟨some 18, none, .mov (.r 0)⟩, ⟨some 19, none, .mov (.r 5)⟩, ⟨some 20, none, .idxA 1 (.r 18) (.r 19)⟩, ⟨some 21, none, .load 1 false (.r 20)⟩, ⟨some 22, none, .mov (.r 1)⟩, ⟨some 23, none, .mov (.r 5)⟩, ⟨some 24, none, .idxA 1 (.r 22) (.r 23)⟩, ⟨some 25, none, .load 1 false (.r 24)⟩, ⟨some 26, none, .bin .neq (.r 21) (.r 25)⟩] (List.replicate 9 ⟨none, []⟩) ([0, 1, 5, 26], [])) (.cond (.r 26) (.seq (.dreg [⟨some 27, none, .mov (.r 0)⟩, ⟨some 28, none, .mov (.r 5)⟩, ⟨some 29, none, .idxA 1 (.r 27) (.r 28)⟩, ⟨some 30, none, .load 1 false (.r 29)⟩, ⟨some 31, none, .mov (.r 1)⟩, ⟨some 32, none, .mov (.r 5)⟩, ⟨some 33, none, .idxA 1 (.r 31) (.r 32)⟩, ⟨some 34, none, .load 1 false (.r 33)⟩, ⟨some 35, none, .bin .lss (.r 30) (.r 34)⟩, ⟨some 4, none, .mov (.r 35)⟩] (List.replicate 10 ⟨none, []⟩) ([4], [])) .ret) .skip))) (.reg [⟨some 16, none, .mov (.r 5)⟩, ⟨some 17, none, .bin .add (.r 16) (.k (.int .i64 1))⟩, ⟨some 5, none, .mov (.r 17)⟩] ([0, 1, 5], [])))
abbrev L0 : AC := .loop l0 ([0, 1, 5], [])
def top : AC := .seq (.reg [⟨some 4, none, .mov (.k (.bool false))⟩] ([0, 1], [])) (.seq (.seq (.reg [⟨some 5, none, .mov (.k (.int .i64 0))⟩] ([0, 1, 5], [])) (.block 0 (.loop l0 ([0, 1, 5], [])))) (.seq (.reg [⟨some 36, none, .mov (.r 0)⟩, ⟨some 37, none, .len (.r 36)⟩, ⟨some 38, none, .mov (.r 1)⟩, ⟨some 39, none, .len (.r 38)⟩, ⟨some 40, none, .bin .lss (.r 37) (.r 39)⟩, ⟨some 4, none, .mov (.r 40)⟩] ([4], [])) .ret))
def anno : Anno := ⟨0, [], [(0, ([0, 1], [])), (1, ([0, 1, 5], [])), (2, ([0, 1, 5, 15], [])), (3, ([0, 1, 5], [])), (4, ([0, 1, 5, 26], [])), (5, ([4], [])), (6, ([4], []))], [(0, ([0, 1, 5], []))], [(0, ([0, 1], [])), (1, ([0, 1, 5], []))], [(4, List.replicate 9 ⟨none, []⟩), (5, List.replicate 10 ⟨none, []⟩)]⟩
def rs : List RV := [.tm 4]
theorem comp_ : f58.body.bind (compile prog anno) = some top := by kernel_rfl
theorem rs_ : rvsOf prog f58.results.toList = some rs := by kernel_rfl
theorem fkS {es : List Ent} {ss : List Spe} (h : Fks prog es) (hs : Fsps prog ss) {leak : Bool} {R : List AV → AV → Prop} (k : ∀ args r, R args r → Run (ctx es ss) top rs 41 0 args r ∧ (leak = false → Fr r)) : Fk prog ⟨58, leak, R⟩ := fk_of h hs mix_ (by kernel_rfl : prog.funcs[58]? = some f58) (by kernel_rfl) comp_ rs_ k
theorem fq {es : List Ent} (h : Fqs prog es) {leak : Bool} {R : List AV → AV → Prop} (hq : quietX (ctxQ es) top = true) (k : ∀ args r, R args r → Run (ctxQ es) top rs 41 0 args r ∧ (leak = false → Fr r)) : Fq prog ⟨58, leak, R⟩ := fq_of h mix_ (by kernel_rfl : prog.funcs[58]? = some f58) (by kernel_rfl) comp_ rs_ hq k
theorem fk {es : List Ent} (h : Fks prog es) {leak : Bool} {R : List AV → AV → Prop} (k : ∀ args r, R args r → Run (ctx es) top rs 41 0 args r ∧ (leak = false → Fr r)) : Fk prog ⟨58, leak, R⟩ := fkS (ss := []) h trivial k
end C.group.lessList
-- semigroup/semigroupref14.Associative: semigroup/semigroupref14/ref.go .. 46
namespace C.ref14.Associative
def l4 : AC := .seq (.reg [⟨some 28, none, .bin .lss (.r 27) (.r 26)⟩] ([0, 7, 8, 16, 17, 21, 22, 26, 27, 28], [])) (.seq (.cond (.r 28) .skip (.exit 4 ([0, 7, 16, 17, 21, 22], []))) (.seq (.block 5 (.seq (.reg [⟨some 29, none, .mov (.r 27)⟩, ⟨some 9, none, .mov (.r 29)⟩] ([0, 7, 8, 9, 16, 17, 21, 22, 26, 27], [])) (.seq (.dreg [⟨some 30, none, .mov (.r 0)⟩, ⟨some 31, none, .mov (.r 0)⟩, ⟨some 32, none, .mov (.r 7)⟩, ⟨some 33, none, .idxA 1 (.r 31) (.r 32)⟩, ⟨some 34, none, .load 1 false (.r 33)⟩, ⟨some 35, none, .mov (.r 8)⟩, ⟨some 36, none, .idxA 1 (.r 34) (.r 35)⟩, ⟨some 37, none, .load 1 false (.r 36)⟩, ⟨some 38, none, .idxA 1 (.r 30) (.r 37)⟩, ⟨some 39, none, .load 1 false (.r 38)⟩, ⟨some 40, none, .mov (.r 9)⟩, ⟨some 41, none, .idxA 1 (.r 39) (.r 40)⟩, ⟨some 42, none, .load 1 false (.r 41)⟩, ⟨some 43, none, .mov (.r 0)⟩, ⟨some 44, none, .mov (.r 7)⟩, ⟨some 45, none, .idxA 1 (.r 43) (.r 44)⟩, ⟨some 46, none, .load 1 false (.r 45)⟩, ⟨some 47, none, .mov (.r 0)⟩, ⟨some 48, none, .mov (.r 8)⟩, ⟨some 49, none, .idxA 1 (.r 47) (.r 48)⟩, ⟨some 50, none, .load 1 false (.r 49)⟩, ⟨some 51, none, .mov (.r 9)⟩, ⟨some 52, none, .idxA 1 (.r 50) (.r 51)⟩, ⟨some 53, none, .load 1 false (.r 52)⟩, ⟨some 54, none, .idxA 1 (.r 46) (.r 53)⟩, ⟨some 55, none, .load 1 false (.r 54)⟩, ⟨some 56, none, .bin .neq (.r 42) (.r 55)⟩] (List.replicate 27 ⟨none, []⟩) ([0, 7, 8, 9, 16, 17, 21, 22, 26, 27, 56], [])) (.cond (.r 56) (.seq (.reg [⟨some 57, none, .mov (.r 7)⟩, ⟨some 58, none, .mov (.r 8)⟩, ⟨some 59, none, .mov (.r 9)⟩, ⟨some 2, none, .mov (.r 57)⟩, ⟨some 3, none, .mov (.r 58)⟩, ⟨some 4, none, .mov (.r 59)⟩, ⟨some 5, none, .mov (.k (.int .i64 5))⟩] ([2, 3, 4, 5], [])) .ret) .skip)))) (.reg [⟨some 60, none, .bin .add (.r 27) (.k (.int .i64 1))⟩, ⟨some 27, none, .mov (.r 60)⟩] ([0, 7, 8, 16, 17, 21, 22, 26, 27], []))))
abbrev L4 : AC := .loop l4 ([0, 7, 8, 16, 17, 21, 22, 26, 27], [])
def l2 : AC := .seq (.reg [⟨some 23, none, .bin .lss (.r 22) (.r 21)⟩] ([0, 7, 16, 17, 21, 22, 23], [])) (.seq (.cond (.r 23) .skip (.exit 2 ([0, 16, 17], []))) (.seq (.block 3 (.seq (.reg [⟨some 24, none, .mov (.r 22)⟩, ⟨some 8, none, .mov (.r 24)⟩] ([0, 7, 8, 16, 17, 21, 22], [])) (.seq (.reg [⟨some 25, none, .mov (.r 0)⟩, ⟨some 26, none, .len (.r 25)⟩, ⟨some 27, none, .mov (.k (.int .i64 0))⟩] ([0, 7, 8, 16, 17, 21, 22, 26, 27], [])) (.block 4 (.loop l4 ([0, 7, 8, 16, 17, 21, 22, 26, 27], [])))))) (.reg [⟨some 61, none, .bin .add (.r 22) (.k (.int .i64 1))⟩, ⟨some 22, none, .mov (.r 61)⟩] ([0, 7, 16, 17, 21, 22], []))))
abbrev L2 : AC := .loop l2 ([0, 7, 16, 17, 21, 22], [])
def l0 : AC := .seq (.reg [⟨some 18, none, .bin .lss (.r 17) (.r 16)⟩] ([0, 16, 17, 18], [])) (.seq (.cond (.r 18) .skip (.exit 0 ([], []))) (.seq (.block 1 (.seq (.reg [⟨some 19, none, .mov (.r 17)⟩, ⟨some 7, none, .mov (.r 19)⟩] ([0, 7, 16, 17], [])) (.seq (.reg [⟨some 20, none, .mov (.r 0)⟩, ⟨some 21, none, .len (.r 20)⟩, ⟨some 22, none, .mov (.k (.int .i64 0))⟩] ([0, 7, 16, 17, 21, 22], [])) (.block 2 (.loop l2 ([0, 7, 16, 17, 21, 22], [])))))) (.reg [⟨some 62, none, .bin .add (.r 17) (.k (.int .i64 1))⟩, ⟨some 17, none, .mov (.r 62)⟩] ([0, 16, 17], []))))
abbrev L0 : AC := .loop l0 ([0, 16, 17], [])
def top : AC := .seq (.reg [⟨some 2, none, .mov (.k (.int .i64 0))⟩, ⟨some 3, none, .mov (.k (.int .i64 0))⟩, ⟨some 4, none, .mov (.k (.int .i64 0))⟩, ⟨some 5, none, .mov (.k (.int .i64 0))⟩] ([0], [])) (.seq (.seq (.reg [⟨some 10, none, .mov (.r 0)⟩, ⟨some 11, none, .call F_ref14_Shape [(.r 10)]⟩, ⟨some 6, none, .mov (.r 11)⟩] ([0, 6], [])) (.seq (.reg [⟨some 12, none, .mov (.r 6)⟩, ⟨some 13, none, .bin .neq (.r 12) (.k (.int .i64 0))⟩] ([0, 6, 13], [])) (.cond (.r 13) (.seq (.reg [⟨some 14, none, .mov (.r 6)⟩, ⟨some 2, none, .mov (.k (.int .i64 0))⟩, ⟨some 3, none, .mov (.k (.int .i64 0))⟩, ⟨some 4, none, .mov (.k (.int .i64 0))⟩, ⟨some 5, none, .mov (.r 14)⟩] ([2, 3, 4, 5], [])) .ret) .skip))) (.seq (.seq (.reg [⟨some 15, none, .mov (.r 0)⟩, ⟨some 16, none, .len (.r 15)⟩, ⟨some 17, none, .mov (.k (.int .i64 0))⟩] ([0, 16, 17], [])) (.block 0 (.loop l0 ([0, 16, 17], [])))) (.seq (.reg [⟨some 2, none, .mov (.k (.int .i64 0))⟩, ⟨some 3, none, .mov (.k (.int .i64 0))⟩, ⟨some 4, none, .mov (.k (.int .i64 0))⟩, ⟨some 5, none, .mov (.k (.int .i64 0))⟩] ([2, 3, 4, 5], [])) .ret)))
def anno : Anno := ⟨0, [], [(0, ([0], [])), (1, ([0, 6], [])), (2, ([0, 6, 13], [])), (3, ([2, 3, 4, 5], [])), (4, ([0, 16, 17], [])), (5, ([0, 16, 17, 18], [])), (6, ([0, 7, 16, 17], [])), (7, ([0, 7, 16, 17, 21, 22], [])), (8, ([0, 7, 16, 17, 21, 22, 23], [])), (9, ([0, 7, 8, 16, 17, 21, 22], [])), (10, ([0, 7, 8, 16, 17, 21, 22, 26, 27], [])), (11, ([0, 7, 8, 16, 17, 21, 22, 26, 27, 28], [])), (12, ([0, 7, 8, 9, 16, 17, 21, 22, 26, 27], [])), (13, ([0, 7, 8, 9, 16, 17, 21, 22, 26, 27, 56], [])), (14, ([2, 3, 4, 5], [])), (15, ([0, 7, 8, 16, 17, 21, 22, 26, 27], [])), (16, ([0, 7, 16, 17, 21, 22], [])), (17, ([0, 16, 17], [])), (18, ([2, 3, 4, 5], []))], [(0, ([0, 16, 17], [])), (2, ([0, 7, 16, 17, 21, 22], [])), (4, ([0, 7, 8, 16, 17, 21, 22, 26, 27], []))], [(0, ([], [])), (1, ([0, 16, 17], [])), (2, ([0, 16, 17], [])), (3, ([0, 7, 16, 17, 21, 22], [])), (4, ([0, 7, 16, 17, 21, 22], [])), (5, ([0, 7, 8, 16, 17, 21, 22, 26, 27], []))], [(13, List.replicate 27 ⟨none, []⟩)]⟩
def rs : List RV := [.tm 2, .tm 3, .tm 4, .tm 5]
theorem comp_ : f59.body.bind (compile prog anno) = some top := by kernel_rfl
theorem rs_ : rvsOf prog f59.results.toList = some rs := by kernel_rfl
theorem fkS {es : List Ent} {ss : List Spe} (h : Fks prog es) (hs : Fsps prog ss) {leak : Bool} {R : List AV → AV → Prop} (k : ∀ args r, R args r → Run (ctx es ss) top rs 63 0 args r ∧ (leak = false → Fr r)) : Fk prog ⟨59, leak, R⟩ := fk_of h hs mix_ (by kernel_rfl : prog.funcs[59]? = some f59) (by kernel_rfl) comp_ rs_ k
theorem fq {es : List Ent} (h : Fqs prog es) {leak : Bool} {R : List AV → AV → Prop} (hq : quietX (ctxQ es) top = true) (k : ∀ args r, R args r → Run (ctxQ es) top rs 63 0 args r ∧ (leak = false → Fr r)) : Fq prog ⟨59, leak, R⟩ := fq_of h mix_ (by kernel_rfl : prog.funcs[59]? = some f59) (by kernel_rfl) comp_ rs_ hq k
theorem fk {es : List Ent} (h : Fks prog es) {leak : Bool} {R : List AV → AV → Prop} (k : ∀ args r, R args r → Run (ctx es) top rs 63 0 args r ∧ (leak = false → Fr r)) : Fk prog ⟨59, leak, R⟩ := fkS (ss := []) h trivial k
end C.ref14.Associative
-- (semigroup/group.group).cosets: semigroup/group/group.go .. 133
namespace C.group.group.cosets
def l0 : AC := .seq (.reg [⟨some 18, none, .bin .lss (.r 17) (.r 16)⟩] ([1, 2, 5, 16, 17, 18], [0, 1])) (.seq (.cond (.r 18) .skip (.exit 0 ([1, 2, 5], [0, 1]))) (.seq (.block 1 (.seq (.reg [⟨some 19, none, .mov (.r 17)⟩, ⟨some 6, none, .mov (.r 19)⟩] ([1, 2, 5, 6, 16, 17], [0, 1])) (.reg [⟨some 20, none, .mov (.r 5)⟩, ⟨some 21, none, .mov (.r 6)⟩, ⟨some 22, none, .idxA 1 (.r 20) (.r 21)⟩, ⟨none, none, .store 1 (.r 22) (.k (.int .i64 (-1)))⟩] ([1, 2, 5, 16, 17], [0, 1])))) (.reg [⟨some 23, none, .bin .add (.r 17) (.k (.int .i64 1))⟩, ⟨some 17, none, .mov (.r 23)⟩] ([1, 2, 5, 16, 17], [0, 1]))))
abbrev L0 : AC := .loop l0 ([1, 2, 5, 16, 17], [0, 1])
def l4 : AC := .seq (.reg [⟨some 37, none, .bin .lss (.r 36) (.r 35)⟩] ([1, 2, 5, 7, 8, 25, 26, 34, 35, 36, 37], [0, 1])) (.seq (.cond (.r 37) .skip (.exit 4 ([1, 2, 5, 7, 25, 26], [0, 1]))) (.seq (.block 5 (.seq (.reg [⟨some 38, none, .idxA 1 (.r 34) (.r 36)⟩, ⟨some 39, none, .load 1 false (.r 38)⟩, ⟨some 10, none, .mov (.r 39)⟩] ([1, 2, 5, 7, 8, 10, 25, 26, 34, 35, 36], [0, 1])) (.reg [⟨some 40, none, .mov (.r 5)⟩, ⟨some 41, none, .fldA 0 1 (.r 2)⟩, ⟨some 42, none, .load 1 false (.r 41)⟩, ⟨some 43, none, .mov (.r 8)⟩, ⟨some 44, none, .idxA 1 (.r 42) (.r 43)⟩, ⟨some 45, none, .load 1 false (.r 44)⟩, ⟨some 46, none, .mov (.r 10)⟩, ⟨some 47, none, .idxA 1 (.r 45) (.r 46)⟩, ⟨some 48, none, .load 1 false (.r 47)⟩, ⟨some 49, none, .mov (.r 7)⟩, ⟨some 50, none, .idxA 1 (.r 40) (.r 48)⟩, ⟨none, none, .store 1 (.r 50) (.r 49)⟩] ([1, 2, 5, 7, 8, 25, 26, 34, 35, 36], [0, 1])))) (.reg [⟨some 51, none, .bin .add (.r 36) (.k (.int .i64 1))⟩, ⟨some 36, none, .mov (.r 51)⟩] ([1, 2, 5, 7, 8, 25, 26, 34, 35, 36], [0, 1]))))
abbrev L4 : AC := .loop l4 ([1, 2, 5, 7, 8, 25, 26, 34, 35, 36], [0, 1])
def l2 : AC := .seq (.reg [⟨some 27, none, .bin .lss (.r 26) (.r 25)⟩] ([1, 2, 5, 7, 25, 26, 27], [0, 1])) (.seq (.cond (.r 27) .skip (.exit 2 ([5], [1]))) (.seq (.block 3 (.seq (.reg [⟨some 28, none, .mov (.r 26)⟩, ⟨some 8, none, .mov (.r 28)⟩] ([1, 2, 5, 7, 8, 25, 26], [0, 1])) (.seq (.seq (.reg [⟨some 29, none, .mov (.r 5)⟩, ⟨some 30, none, .mov (.r 8)⟩, ⟨some 31, none, .idxA 1 (.r 29) (.r 30)⟩, ⟨some 32, none, .load 1 false (.r 31)⟩, ⟨some 33, none, .bin .geq (.r 32) (.k (.int .i64 0))⟩] ([1, 2, 5, 7, 8, 25, 26, 33], [0, 1])) (.cond (.r 33) (.exit 3 ([1, 2, 5, 7, 25, 26], [0, 1])) .skip)) (.seq (.seq (.reg [⟨some 34, none, .mov (.r 1)⟩, ⟨some 35, none, .len (.r 34)⟩, ⟨some 36, none, .mov (.k (.int .i64 0))⟩] ([1, 2, 5, 7, 8, 25, 26, 34, 35, 36], [0, 1])) (.block 4 (.loop l4 ([1, 2, 5, 7, 8, 25, 26, 34, 35, 36], [0, 1])))) (.reg [⟨some 52, none, .mov (.r 7)⟩, ⟨some 53, none, .bin .add (.r 52) (.k (.int .i64 1))⟩, ⟨some 7, none, .mov (.r 53)⟩] ([1, 2, 5, 7, 25, 26], [0, 1])))))) (.reg [⟨some 54, none, .bin .add (.r 26) (.k (.int .i64 1))⟩, ⟨some 26, none, .mov (.r 54)⟩] ([1, 2, 5, 7, 25, 26], [0, 1]))))
abbrev L2 : AC := .loop l2 ([1, 2, 5, 7, 25, 26], [0, 1])
def top : AC := .seq (.reg [⟨some 2, none, .box 0 Tgroup_group 3 (.r 0)⟩, ⟨some 4, none, .nilf true 1⟩] ([1, 2], [0])) (.seq (.reg [⟨some 11, none, .fldA 0 1 (.r 2)⟩, ⟨some 12, none, .load 1 false (.r 11)⟩, ⟨some 13, none, .len (.r 12)⟩, ⟨some 14, none, .mk 1 Tint 1 8 [.int .i64 0] (.r 13) (.r 13)⟩, ⟨some 5, none, .mov (.r 14)⟩] ([1, 2, 5], [0, 1])) (.seq (.seq (.reg [⟨some 15, none, .mov (.r 5)⟩, ⟨some 16, none, .len (.r 15)⟩, ⟨some 17, none, .mov (.k (.int .i64 0))⟩] ([1, 2, 5, 16, 17], [0, 1])) (.block 0 (.loop l0 ([1, 2, 5, 16, 17], [0, 1])))) (.seq (.reg [⟨some 7, none, .mov (.k (.int .i64 0))⟩] ([1, 2, 5, 7], [0, 1])) (.seq (.seq (.reg [⟨some 24, none, .mov (.r 5)⟩, ⟨some 25, none, .len (.r 24)⟩, ⟨some 26, none, .mov (.k (.int .i64 0))⟩] ([1, 2, 5, 7, 25, 26], [0, 1])) (.block 2 (.loop l2 ([1, 2, 5, 7, 25, 26], [0, 1])))) (.seq (.reg [⟨some 55, none, .mov (.r 5)⟩, ⟨some 4, none, .mov (.r 55)⟩] ([4], [1])) .ret)))))
def anno : Anno := ⟨2, [(0, 0, 0), (0, 1, 1000000), (1, 3, 1)], [(0, ([1, 2], [0])), (1, ([1, 2, 5], [0, 1])), (2, ([1, 2, 5, 16, 17], [0, 1])), (3, ([1, 2, 5, 16, 17, 18], [0, 1])), (4, ([1, 2, 5, 6, 16, 17], [0, 1])), (5, ([1, 2, 5, 16, 17], [0, 1])), (6, ([1, 2, 5, 16, 17], [0, 1])), (7, ([1, 2, 5, 7], [0, 1])), (8, ([1, 2, 5, 7, 25, 26], [0, 1])), (9, ([1, 2, 5, 7, 25, 26, 27], [0, 1])), (10, ([1, 2, 5, 7, 8, 25, 26], [0, 1])), (11, ([1, 2, 5, 7, 8, 25, 26, 33], [0, 1])), (12, ([1, 2, 5, 7, 8, 25, 26, 34, 35, 36], [0, 1])), (13, ([1, 2, 5, 7, 8, 25, 26, 34, 35, 36, 37], [0, 1])), (14, ([1, 2, 5, 7, 8, 10, 25, 26, 34, 35, 36], [0, 1])), (15, ([1, 2, 5, 7, 8, 25, 26, 34, 35, 36], [0, 1])), (16, ([1, 2, 5, 7, 8, 25, 26, 34, 35, 36], [0, 1])), (17, ([1, 2, 5, 7, 25, 26], [0, 1])), (18, ([1, 2, 5, 7, 25, 26], [0, 1])), (19, ([4], [1]))], [(0, ([1, 2, 5, 16, 17], [0, 1])), (2, ([1, 2, 5, 7, 25, 26], [0, 1])), (4, ([1, 2, 5, 7, 8, 25, 26, 34, 35, 36], [0, 1]))], [(0, ([1, 2, 5], [0, 1])), (1, ([1, 2, 5, 16, 17], [0, 1])), (2, ([5], [1])), (3, ([1, 2, 5, 7, 25, 26], [0, 1])), (4, ([1, 2, 5, 7, 25, 26], [0, 1])), (5, ([1, 2, 5, 7, 8, 25, 26, 34, 35, 36], [0, 1]))], []⟩
def rs : List RV := [.tm 4]
theorem comp_ : f63.body.bind (compile prog anno) = some top := by kernel_rfl
theorem rs_ : rvsOf prog f63.results.toList = some rs := by kernel_rfl
theorem fkS {es : List Ent} {ss : List Spe} (h : Fks prog es) (hs : Fsps prog ss) {leak : Bool} {R : List AV → AV → Prop} (k : ∀ args r, R args r → Run (ctx es ss) top rs 56 2 args r ∧ (leak = false → Fr r)) : Fk prog ⟨63, leak, R⟩ := fk_of h hs mix_ (by kernel_rfl : prog.funcs[63]? = some f63) (by kernel_rfl) comp_ rs_ k
theorem fk {es : List Ent} (h : Fks prog es) {leak : Bool} {R : List AV → AV → Prop} (k : ∀ args r, R args r → Run (ctx es) top rs 56 2 args r ∧ (leak = false → Fr r)) : Fk prog ⟨63, leak, R⟩ := fkS (ss := []) h trivial k
end C.group.group.cosets
-- semigroup/semigroupref03.Set: semigroup/semigroupref03/ref.go .. 216
namespace C.ref03.Set
def l0 : AC := .seq (.reg [⟨some 13, none, .bin .lss (.r 12) (.r 11)⟩] ([1, 5, 10, 11, 12, 13], [0])) (.seq (.cond (.r 13) .skip (.exit 0 ([5], [0]))) (.seq (.block 1 (.seq (.reg [⟨some 14, none, .idxA 1 (.r 10) (.r 12)⟩, ⟨some 15, none, .load 1 false (.r 14)⟩, ⟨some 7, none, .mov (.r 15)⟩] ([1, 5, 7, 10, 11, 12], [0])) (.seq (.reg [⟨some 16, none, .mov (.r 7)⟩, ⟨some 17, none, .bin .geq (.r 16) (.k (.int .i64 0))⟩, ⟨some 18, none, .mov (.r 17)⟩, ⟨some 19, (some (18, true)), .mov (.r 7)⟩, ⟨some 20, (some (18, true)), .mov (.r 1)⟩, ⟨some 21, (some (18, true)), .bin .lss (.r 19) (.r 20)⟩, ⟨some 22, none, .pick (.r 18) (.r 21) (.k (.bool false))⟩] ([1, 5, 7, 10, 11, 12, 22], [0])) (.cond (.r 22) (.reg [⟨some 23, none, .mov (.r 5)⟩, ⟨some 24, none, .mov (.r 7)⟩, ⟨some 25, none, .idxA 1 (.r 23) (.r 24)⟩, ⟨none, none, .store 1 (.r 25) (.k (.bool true))⟩] ([1, 5, 10, 11, 12], [0])) .skip)))) (.reg [⟨some 26, none, .bin .add (.r 12) (.k (.int .i64 1))⟩, ⟨some 12, none, .mov (.r 26)⟩] ([1, 5, 10, 11, 12], [0]))))
abbrev L0 : AC := .loop l0 ([1, 5, 10, 11, 12], [0])
def top : AC := .seq (.reg [⟨some 4, none, .nilf true 1⟩] ([0, 1], [])) (.seq (.reg [⟨some 8, none, .mov (.r 1)⟩, ⟨some 9, none, .mk 0 Tbool 1 1 [.bool false] (.r 8) (.r 8)⟩, ⟨some 5, none, .mov (.r 9)⟩] ([0, 1, 5], [0])) (.seq (.seq (.reg [⟨some 10, none, .mov (.r 0)⟩, ⟨some 11, none, .len (.r 10)⟩, ⟨some 12, none, .mov (.k (.int .i64 0))⟩] ([1, 5, 10, 11, 12], [0])) (.block 0 (.loop l0 ([1, 5, 10, 11, 12], [0])))) (.seq (.reg [⟨some 27, none, .mov (.r 5)⟩, ⟨some 4, none, .mov (.r 27)⟩] ([4], [0])) .ret)))
def anno : Anno := ⟨1, [(0, 0, 1000000), (1, 1, 0)], [(0, ([0, 1], [])), (1, ([0, 1, 5], [0])), (2, ([1, 5, 10, 11, 12], [0])), (3, ([1, 5, 10, 11, 12, 13], [0])), (4, ([1, 5, 7, 10, 11, 12], [0])), (5, ([1, 5, 7, 10, 11, 12, 22], [0])), (6, ([1, 5, 10, 11, 12], [0])), (7, ([1, 5, 10, 11, 12], [0])), (8, ([4], [0]))], [(0, ([1, 5, 10, 11, 12], [0]))], [(0, ([5], [0])), (1, ([1, 5, 10, 11, 12], [0]))], []⟩
def rs : List RV := [.tm 4]
theorem comp_ : f65.body.bind (compile prog anno) = some top := by kernel_rfl
theorem rs_ : rvsOf prog f65.results.toList = some rs := by kernel_rfl
theorem fkS {es : List Ent} {ss : List Spe} (h : Fks prog es) (hs : Fsps prog ss) {leak : Bool} {R : List AV → AV → Prop} (k : ∀ args r, R args r → Run (ctx es ss) top rs 28 1 args r ∧ (leak = false → Fr r)) : Fk prog ⟨65, leak, R⟩ := fk_of h hs mix_ (by kernel_rfl : prog.funcs[65]? = some f65) (by kernel_rfl) comp_ rs_ k
theorem fk {es : List Ent} (h : Fks prog es) {leak : Bool} {R : List AV → AV → Prop} (k : ∀ args r, R args r → Run (ctx es) top rs 28 1 args r ∧ (leak = false → Fr r)) : Fk prog ⟨65, leak, R⟩ := fkS (ss := []) h trivial k
end C.ref03.Set
-- (semigroup/group.group).quotient: semigroup/group/group.go .. 288
namespace C.group.group.quotient
def l0 : AC := .seq (.reg [⟨some 20, none, .bin .lss (.r 19) (.r 18)⟩] ([2, 5, 6, 17, 18, 19, 20], [0, 1, 4])) (.seq (.cond (.r 20) .skip (.exit 0 ([2, 5, 6], [0, 1, 4]))) (.seq (.block 1 (.seq (.reg [⟨some 21, none, .mov (.r 19)⟩, ⟨some 22, none, .idxA 1 (.r 17) (.r 19)⟩, ⟨some 23, none, .load 1 false (.r 22)⟩, ⟨some 7, none, .mov (.r 21)⟩, ⟨some 8, none, .mov (.r 23)⟩] ([2, 5, 6, 7, 8, 17, 18, 19], [0, 1, 4])) (.seq (.reg [⟨some 24, none, .mov (.r 8)⟩, ⟨some 25, none, .mov (.r 6)⟩, ⟨some 26, none, .len (.r 25)⟩, ⟨some 27, none, .bin .eql (.r 24) (.r 26)⟩] ([2, 5, 6, 7, 17, 18, 19, 27], [0, 1, 4])) (.cond (.r 27) (.reg [⟨some 28, none, .mov (.r 6)⟩, ⟨some 29, none, .mov (.r 7)⟩, ⟨some 30, none, .sl 2 Tint 1 1 [.int .i64 0] [(0, (.r 29))]⟩, ⟨some 31, none, .app 1000000 Tint 1 8 (.r 28) (.r 30)⟩, ⟨some 6, none, .mov (.r 31)⟩] ([2, 5, 6, 17, 18, 19], [0, 1, 4])) .skip)))) (.reg [⟨some 32, none, .bin .add (.r 19) (.k (.int .i64 1))⟩, ⟨some 19, none, .mov (.r 32)⟩] ([2, 5, 6, 17, 18, 19], [0, 1, 4]))))
abbrev L0 : AC := .loop l0 ([2, 5, 6, 17, 18, 19], [0, 1, 4])
def l4 : AC := .seq (.reg [⟨some 52, none, .bin .lss (.r 51) (.r 50)⟩] ([2, 5, 6, 9, 10, 11, 36, 37, 38, 49, 50, 51, 52], [0, 1, 3, 4])) (.seq (.cond (.r 52) .skip (.exit 4 ([2, 5, 6, 9, 36, 37, 38], [0, 1, 3, 4]))) (.seq (.block 5 (.seq (.reg [⟨some 53, none, .mov (.r 51)⟩, ⟨some 54, none, .idxA 1 (.r 49) (.r 51)⟩, ⟨some 55, none, .load 1 false (.r 54)⟩, ⟨some 12, none, .mov (.r 53)⟩, ⟨some 13, none, .mov (.r 55)⟩] ([2, 5, 6, 9, 10, 11, 12, 13, 36, 37, 38, 49, 50, 51], [0, 1, 3, 4])) (.dreg [⟨some 56, none, .mov (.r 9)⟩, ⟨some 57, none, .mov (.r 10)⟩, ⟨some 58, none, .idxA 1 (.r 56) (.r 57)⟩, ⟨some 59, none, .load 1 false (.r 58)⟩, ⟨some 60, none, .mov (.r 12)⟩, ⟨some 61, none, .mov (.r 5)⟩, ⟨some 62, none, .fldA 0 1 (.r 2)⟩, ⟨some 63, none, .load 1 false (.r 62)⟩, ⟨some 64, none, .mov (.r 11)⟩, ⟨some 65, none, .idxA 1 (.r 63) (.r 64)⟩, ⟨some 66, none, .load 1 false (.r 65)⟩, ⟨some 67, none, .mov (.r 13)⟩, ⟨some 68, none, .idxA 1 (.r 66) (.r 67)⟩, ⟨some 69, none, .load 1 false (.r 68)⟩, ⟨some 70, none, .idxA 1 (.r 61) (.r 69)⟩, ⟨some 71, none, .load 1 false (.r 70)⟩, ⟨some 72, none, .idxA 1 (.r 59) (.r 60)⟩, ⟨none, none, .store 1 (.r 72) (.r 71)⟩] ([⟨some [], []⟩, ⟨some [], []⟩, ⟨some [3], []⟩, ⟨some [3], []⟩, ⟨some [], []⟩, ⟨some [], []⟩, ⟨some [], []⟩, ⟨some [0], []⟩, ⟨some [], []⟩, ⟨some [], []⟩, ⟨some [], []⟩, ⟨some [], []⟩, ⟨some [], []⟩, ⟨some [], []⟩, ⟨some [], []⟩, ⟨some [], []⟩, ⟨some [4], []⟩, ⟨some [4], [4]⟩]) ([2, 5, 6, 9, 10, 11, 36, 37, 38, 49, 50, 51], [0, 1, 3, 4])))) (.reg [⟨some 73, none, .bin .add (.r 51) (.k (.int .i64 1))⟩, ⟨some 51, none, .mov (.r 73)⟩] ([2, 5, 6, 9, 10, 11, 36, 37, 38, 49, 50, 51], [0, 1, 3, 4]))))
abbrev L4 : AC := .loop l4 ([2, 5, 6, 9, 10, 11, 36, 37, 38, 49, 50, 51], [0, 1, 3, 4])
def l2 : AC := .seq (.reg [⟨some 39, none, .bin .lss (.r 38) (.r 37)⟩] ([2, 5, 6, 9, 36, 37, 38, 39], [0, 1, 3, 4])) (.seq (.cond (.r 39) .skip (.exit 2 ([9], [3, 4]))) (.seq (.block 3 (.seq (.reg [⟨some 40, none, .mov (.r 38)⟩, ⟨some 41, none, .idxA 1 (.r 36) (.r 38)⟩, ⟨some 42, none, .load 1 false (.r 41)⟩, ⟨some 10, none, .mov (.r 40)⟩, ⟨some 11, none, .mov (.r 42)⟩] ([2, 5, 6, 9, 10, 11, 36, 37, 38], [0, 1, 3, 4])) (.seq (.reg [⟨some 43, none, .mov (.r 9)⟩, ⟨some 44, none, .mov (.r 10)⟩, ⟨some 45, none, .mov (.r 6)⟩, ⟨some 46, none, .len (.r 45)⟩, ⟨some 47, none, .mk 4 Tint 1 8 [.int .i64 0] (.r 46) (.r 46)⟩, ⟨some 48, none, .idxA 1 (.r 43) (.r 44)⟩, ⟨none, none, .store 1 (.r 48) (.r 47)⟩] ([2, 5, 6, 9, 10, 11, 36, 37, 38], [0, 1, 3, 4])) (.seq (.reg [⟨some 49, none, .mov (.r 6)⟩, ⟨some 50, none, .len (.r 49)⟩, ⟨some 51, none, .mov (.k (.int .i64 0))⟩] ([2, 5, 6, 9, 10, 11, 36, 37, 38, 49, 50, 51], [0, 1, 3, 4])) (.block 4 (.loop l4 ([2, 5, 6, 9, 10, 11, 36, 37, 38, 49, 50, 51], [0, 1, 3, 4]))))))) (.reg [⟨some 74, none, .bin .add (.r 38) (.k (.int .i64 1))⟩, ⟨some 38, none, .mov (.r 74)⟩] ([2, 5, 6, 9, 36, 37, 38], [0, 1, 3, 4]))))
abbrev L2 : AC := .loop l2 ([2, 5, 6, 9, 36, 37, 38], [0, 1, 3, 4])
def top : AC := .seq (.reg [⟨some 2, none, .box 0 Tgroup_group 3 (.r 0)⟩, ⟨some 4, none, .nilf true 1⟩] ([1, 2], [0, 4])) (.seq (.reg [⟨some 14, none, .load 3 true (.r 2)⟩, ⟨some 15, none, .mov (.r 1)⟩, ⟨some 16, none, .call F_group_group_cosets [(.r 14), (.r 15)]⟩, ⟨some 5, none, .mov (.r 16)⟩] ([2, 5], [0, 4])) (.seq (.reg [⟨some 6, none, .nilr 1 Tint 1⟩] ([2, 5, 6], [0, 1, 4])) (.seq (.seq (.reg [⟨some 17, none, .mov (.r 5)⟩, ⟨some 18, none, .len (.r 17)⟩, ⟨some 19, none, .mov (.k (.int .i64 0))⟩] ([2, 5, 6, 17, 18, 19], [0, 1, 4])) (.block 0 (.loop l0 ([2, 5, 6, 17, 18, 19], [0, 1, 4])))) (.seq (.reg [⟨some 33, none, .mov (.r 6)⟩, ⟨some 34, none, .len (.r 33)⟩, ⟨some 35, none, .mk 3 TSint 1 24 [.slice none 0 0] (.r 34) (.r 34)⟩, ⟨some 9, none, .mov (.r 35)⟩] ([2, 5, 6, 9], [0, 1, 3, 4])) (.seq (.seq (.reg [⟨some 36, none, .mov (.r 6)⟩, ⟨some 37, none, .len (.r 36)⟩, ⟨some 38, none, .mov (.k (.int .i64 0))⟩] ([2, 5, 6, 9, 36, 37, 38], [0, 1, 3, 4])) (.block 2 (.loop l2 ([2, 5, 6, 9, 36, 37, 38], [0, 1, 3, 4])))) (.seq (.reg [⟨some 75, none, .mov (.r 9)⟩, ⟨some 4, none, .mov (.r 75)⟩] ([4], [3, 4])) .ret))))))
def anno : Anno := ⟨5, [(0, 0, 0), (0, 1, 1000000), (2, 0, 1), (7, 2, 2), (9, 2, 3), (13, 4, 4)], [(0, ([1, 2], [0, 4])), (1, ([2, 5], [0, 4])), (2, ([2, 5, 6], [0, 1, 4])), (3, ([2, 5, 6, 17, 18, 19], [0, 1, 4])), (4, ([2, 5, 6, 17, 18, 19, 20], [0, 1, 4])), (5, ([2, 5, 6, 7, 8, 17, 18, 19], [0, 1, 4])), (6, ([2, 5, 6, 7, 17, 18, 19, 27], [0, 1, 4])), (7, ([2, 5, 6, 17, 18, 19], [0, 1, 4])), (8, ([2, 5, 6, 17, 18, 19], [0, 1, 4])), (9, ([2, 5, 6, 9], [0, 1, 3, 4])), (10, ([2, 5, 6, 9, 36, 37, 38], [0, 1, 3, 4])), (11, ([2, 5, 6, 9, 36, 37, 38, 39], [0, 1, 3, 4])), (12, ([2, 5, 6, 9, 10, 11, 36, 37, 38], [0, 1, 3, 4])), (13, ([2, 5, 6, 9, 10, 11, 36, 37, 38], [0, 1, 3, 4])), (14, ([2, 5, 6, 9, 10, 11, 36, 37, 38, 49, 50, 51], [0, 1, 3, 4])), (15, ([2, 5, 6, 9, 10, 11, 36, 37, 38, 49, 50, 51, 52], [0, 1, 3, 4])), (16, ([2, 5, 6, 9, 10, 11, 12, 13, 36, 37, 38, 49, 50, 51], [0, 1, 3, 4])), (17, ([2, 5, 6, 9, 10, 11, 36, 37, 38, 49, 50, 51], [0, 1, 3, 4])), (18, ([2, 5, 6, 9, 10, 11, 36, 37, 38, 49, 50, 51], [0, 1, 3, 4])), (19, ([2, 5, 6, 9, 36, 37, 38], [0, 1, 3, 4])), (20, ([4], [3, 4]))], [(0, ([2, 5, 6, 17, 18, 19], [0, 1, 4])), (2, ([2, 5, 6, 9, 36, 37, 38], [0, 1, 3, 4])), (4, ([2, 5, 6, 9, 10, 11, 36, 37, 38, 49, 50, 51], [0, 1, 3, 4]))], [(0, ([2, 5, 6], [0, 1, 4])), (1, ([2, 5, 6, 17, 18, 19], [0, 1, 4])), (2, ([9], [3, 4])), (3, ([2, 5, 6, 9, 36, 37, 38], [0, 1, 3, 4])), (4, ([2, 5, 6, 9, 36, 37, 38], [0, 1, 3, 4])), (5, ([2, 5, 6, 9, 10, 11, 36, 37, 38, 49, 50, 51], [0, 1, 3, 4]))], [(17, [⟨some [], []⟩, ⟨some [], []⟩, ⟨some [3], []⟩, ⟨some [3], []⟩, ⟨some [], []⟩, ⟨some [], []⟩, ⟨some [], []⟩, ⟨some [0], []⟩, ⟨some [], []⟩, ⟨some [], []⟩, ⟨some [], []⟩, ⟨some [], []⟩, ⟨some [], []⟩, ⟨some [], []⟩, ⟨some [], []⟩, ⟨some [], []⟩, ⟨some [4], []⟩, ⟨some [4], [4]⟩])]⟩
def rs : List RV := [.tm 4]
theorem comp_ : f68.body.bind (compile prog anno) = some top := by kernel_rfl
theorem rs_ : rvsOf prog f68.results.toList = some rs := by kernel_rfl
theorem fkS {es : List Ent} {ss : List Spe} (h : Fks prog es) (hs : Fsps prog ss) {leak : Bool} {R : List AV → AV → Prop} (k : ∀ args r, R args r → Run (ctx es ss) top rs 76 5 args r ∧ (leak = false → Fr r)) : Fk prog ⟨68, leak, R⟩ := fk_of h hs mix_ (by kernel_rfl : prog.funcs[68]? = some f68) (by kernel_rfl) comp_ rs_ k
theorem fk {es : List Ent} (h : Fks prog es) {leak : Bool} {R : List AV → AV → Prop} (k : ∀ args r, R args r → Run (ctx es) top rs 76 5 args r ∧ (leak = false → Fr r)) : Fk prog ⟨68, leak, R⟩ := fkS (ss := []) h trivial k
end C.group.group.quotient
-- (semigroup/group.group).within: semigroup/group/group.go .. 384
namespace C.group.group.within
def l0 : AC := .seq (.reg [⟨some 20, none, .bin .lss (.r 19) (.r 18)⟩] ([1, 2, 4, 5, 17, 18, 19, 20], [0, 1, 2, 3, 4])) (.seq (.cond (.r 20) .skip (.exit 0 ([1, 2, 4, 5], [0, 1, 2, 3, 4]))) (.seq (.block 1 (.seq (.reg [⟨some 21, none, .mov (.r 19)⟩, ⟨some 22, none, .idxA 1 (.r 17) (.r 19)⟩, ⟨some 23, none, .load 1 false (.r 22)⟩, ⟨some 6, none, .mov (.r 21)⟩, ⟨some 7, none, .mov (.r 23)⟩] ([1, 2, 4, 5, 6, 7, 17, 18, 19], [0, 1, 2, 3, 4])) (.reg [⟨some 24, none, .mov (.r 5)⟩, ⟨some 25, none, .mov (.r 7)⟩, ⟨some 26, none, .mov (.r 6)⟩, ⟨none, none, .mset (.int .i64) (.r 24) (.r 25) (.r 26)⟩] ([1, 2, 4, 5, 17, 18, 19], [0, 1, 2, 3, 4])))) (.reg [⟨some 27, none, .bin .add (.r 19) (.k (.int .i64 1))⟩, ⟨some 19, none, .mov (.r 27)⟩] ([1, 2, 4, 5, 17, 18, 19], [0, 1, 2, 3, 4]))))
abbrev L0 : AC := .loop l0 ([1, 2, 4, 5, 17, 18, 19], [0, 1, 2, 3, 4])
def l4 : AC := .seq (.reg [⟨some 47, none, .bin .lss (.r 46) (.r 45)⟩] ([1, 2, 4, 5, 8, 9, 10, 31, 32, 33, 44, 45, 46, 47], [0, 1, 2, 3, 4])) (.seq (.cond (.r 47) .skip (.exit 4 ([1, 2, 4, 5, 8, 31, 32, 33], [0, 1, 2, 3, 4]))) (.seq (.block 5 (.seq (.reg [⟨some 48, none, .mov (.r 46)⟩, ⟨some 49, none, .idxA 1 (.r 44) (.r 46)⟩, ⟨some 50, none, .load 1 false (.r 49)⟩, ⟨some 11, none, .mov (.r 48)⟩, ⟨some 12, none, .mov (.r 50)⟩] ([1, 2, 4, 5, 8, 9, 10, 11, 12, 31, 32, 33, 44, 45, 46], [0, 1, 2, 3, 4])) (.dreg [⟨some 51, none, .mov (.r 8)⟩, ⟨some 52, none, .mov (.r 9)⟩, ⟨some 53, none, .idxA 1 (.r 51) (.r 52)⟩, ⟨some 54, none, .load 1 false (.r 53)⟩, ⟨some 55, none, .mov (.r 11)⟩, ⟨some 56, none, .mov (.r 5)⟩, ⟨some 57, none, .fldA 0 1 (.r 2)⟩, ⟨some 58, none, .load 1 false (.r 57)⟩, ⟨some 59, none, .mov (.r 10)⟩, ⟨some 60, none, .idxA 1 (.r 58) (.r 59)⟩, ⟨some 61, none, .load 1 false (.r 60)⟩, ⟨some 62, none, .mov (.r 12)⟩, ⟨some 63, none, .idxA 1 (.r 61) (.r 62)⟩, ⟨some 64, none, .load 1 false (.r 63)⟩, ⟨some 65, none, .lkp false (.int .i64) (.int .i64 0) (.r 56) (.r 64)⟩, ⟨some 66, none, .idxA 1 (.r 54) (.r 55)⟩, ⟨none, none, .store 1 (.r 66) (.r 65)⟩] ([⟨some [], []⟩, ⟨some [], []⟩, ⟨some [3], []⟩, ⟨some [3], []⟩, ⟨some [], []⟩, ⟨some [], []⟩, ⟨some [], []⟩, ⟨some [0], []⟩, ⟨some [], []⟩, ⟨some [], []⟩, ⟨some [], []⟩, ⟨some [], []⟩, ⟨some [], []⟩, ⟨some [], []⟩, ⟨some [2], []⟩, ⟨some [4], []⟩, ⟨some [4], [4]⟩]) ([1, 2, 4, 5, 8, 9, 10, 31, 32, 33, 44, 45, 46], [0, 1, 2, 3, 4])))) (.reg [⟨some 67, none, .bin .add (.r 46) (.k (.int .i64 1))⟩, ⟨some 46, none, .mov (.r 67)⟩] ([1, 2, 4, 5, 8, 9, 10, 31, 32, 33, 44, 45, 46], [0, 1, 2, 3, 4]))))
abbrev L4 : AC := .loop l4 ([1, 2, 4, 5, 8, 9, 10, 31, 32, 33, 44, 45, 46], [0, 1, 2, 3, 4])
def l2 : AC := .seq (.reg [⟨some 34, none, .bin .lss (.r 33) (.r 32)⟩] ([1, 2, 4, 5, 8, 31, 32, 33, 34], [0, 1, 2, 3, 4])) (.seq (.cond (.r 34) .skip (.exit 2 ([4, 8], [1, 3, 4]))) (.seq (.block 3 (.seq (.reg [⟨some 35, none, .mov (.r 33)⟩, ⟨some 36, none, .idxA 1 (.r 31) (.r 33)⟩, ⟨some 37, none, .load 1 false (.r 36)⟩, ⟨some 9, none, .mov (.r 35)⟩, ⟨some 10, none, .mov (.r 37)⟩] ([1, 2, 4, 5, 8, 9, 10, 31, 32, 33], [0, 1, 2, 3, 4])) (.seq (.reg [⟨some 38, none, .mov (.r 8)⟩, ⟨some 39, none, .mov (.r 9)⟩, ⟨some 40, none, .mov (.r 1)⟩, ⟨some 41, none, .len (.r 40)⟩, ⟨some 42, none, .mk 4 Tint 1 8 [.int .i64 0] (.r 41) (.r 41)⟩, ⟨some 43, none, .idxA 1 (.r 38) (.r 39)⟩, ⟨none, none, .store 1 (.r 43) (.r 42)⟩] ([1, 2, 4, 5, 8, 9, 10, 31, 32, 33], [0, 1, 2, 3, 4])) (.seq (.reg [⟨some 44, none, .mov (.r 1)⟩, ⟨some 45, none, .len (.r 44)⟩, ⟨some 46, none, .mov (.k (.int .i64 0))⟩] ([1, 2, 4, 5, 8, 9, 10, 31, 32, 33, 44, 45, 46], [0, 1, 2, 3, 4])) (.block 4 (.loop l4 ([1, 2, 4, 5, 8, 9, 10, 31, 32, 33, 44, 45, 46], [0, 1, 2, 3, 4]))))))) (.reg [⟨some 68, none, .bin .add (.r 33) (.k (.int .i64 1))⟩, ⟨some 33, none, .mov (.r 68)⟩] ([1, 2, 4, 5, 8, 31, 32, 33], [0, 1, 2, 3, 4]))))
abbrev L2 : AC := .loop l2 ([1, 2, 4, 5, 8, 31, 32, 33], [0, 1, 2, 3, 4])
def top : AC := .seq (.reg [⟨some 2, none, .box 0 Tgroup_group 3 (.r 0)⟩, ⟨some 4, none, .alc 1 Tgroup_group [.slice none 0 0, .int .i64 0, .slice none 0 0]⟩] ([1, 2, 4], [0, 1, 3, 4])) (.seq (.reg [⟨some 16, none, .mkm 2 Tint Tint⟩, ⟨some 5, none, .mov (.r 16)⟩] ([1, 2, 4, 5], [0, 1, 2, 3, 4])) (.seq (.seq (.reg [⟨some 17, none, .mov (.r 1)⟩, ⟨some 18, none, .len (.r 17)⟩, ⟨some 19, none, .mov (.k (.int .i64 0))⟩] ([1, 2, 4, 5, 17, 18, 19], [0, 1, 2, 3, 4])) (.block 0 (.loop l0 ([1, 2, 4, 5, 17, 18, 19], [0, 1, 2, 3, 4])))) (.seq (.reg [⟨some 28, none, .mov (.r 1)⟩, ⟨some 29, none, .len (.r 28)⟩, ⟨some 30, none, .mk 3 TSint 1 24 [.slice none 0 0] (.r 29) (.r 29)⟩, ⟨some 8, none, .mov (.r 30)⟩] ([1, 2, 4, 5, 8], [0, 1, 2, 3, 4])) (.seq (.seq (.reg [⟨some 31, none, .mov (.r 1)⟩, ⟨some 32, none, .len (.r 31)⟩, ⟨some 33, none, .mov (.k (.int .i64 0))⟩] ([1, 2, 4, 5, 8, 31, 32, 33], [0, 1, 2, 3, 4])) (.block 2 (.loop l2 ([1, 2, 4, 5, 8, 31, 32, 33], [0, 1, 2, 3, 4])))) (.seq (.reg [⟨some 70, none, .mov (.r 8)⟩, ⟨some 71, none, .call F_group_inverses [(.r 70)]⟩, ⟨some 69, none, .mov (.r 71)⟩, ⟨some 72, none, .ext 0 (.r 69)⟩, ⟨some 73, none, .ext 1 (.r 69)⟩, ⟨some 74, none, .ext 2 (.r 69)⟩, ⟨some 13, none, .mov (.r 72)⟩, ⟨some 14, none, .mov (.r 73)⟩, ⟨some 15, none, .mov (.r 74)⟩] ([4, 8, 13, 14], [1, 3, 4])) (.seq (.reg [⟨some 75, none, .mov (.r 8)⟩, ⟨some 76, none, .mov (.r 13)⟩, ⟨some 77, none, .mov (.r 14)⟩, ⟨some 78, none, .bld [.slice none 0 0, .int .i64 0, .slice none 0 0] [(0, 1, (.r 75)), (1, 1, (.r 76)), (2, 1, (.r 77))]⟩, ⟨none, none, .store 3 (.r 4) (.r 78)⟩] ([4], [1, 3, 4])) .ret))))))
def anno : Anno := ⟨5, [(0, 0, 0), (0, 1, 1), (1, 0, 2), (7, 2, 3), (11, 4, 4)], [(0, ([1, 2, 4], [0, 1, 3, 4])), (1, ([1, 2, 4, 5], [0, 1, 2, 3, 4])), (2, ([1, 2, 4, 5, 17, 18, 19], [0, 1, 2, 3, 4])), (3, ([1, 2, 4, 5, 17, 18, 19, 20], [0, 1, 2, 3, 4])), (4, ([1, 2, 4, 5, 6, 7, 17, 18, 19], [0, 1, 2, 3, 4])), (5, ([1, 2, 4, 5, 17, 18, 19], [0, 1, 2, 3, 4])), (6, ([1, 2, 4, 5, 17, 18, 19], [0, 1, 2, 3, 4])), (7, ([1, 2, 4, 5, 8], [0, 1, 2, 3, 4])), (8, ([1, 2, 4, 5, 8, 31, 32, 33], [0, 1, 2, 3, 4])), (9, ([1, 2, 4, 5, 8, 31, 32, 33, 34], [0, 1, 2, 3, 4])), (10, ([1, 2, 4, 5, 8, 9, 10, 31, 32, 33], [0, 1, 2, 3, 4])), (11, ([1, 2, 4, 5, 8, 9, 10, 31, 32, 33], [0, 1, 2, 3, 4])), (12, ([1, 2, 4, 5, 8, 9, 10, 31, 32, 33, 44, 45, 46], [0, 1, 2, 3, 4])), (13, ([1, 2, 4, 5, 8, 9, 10, 31, 32, 33, 44, 45, 46, 47], [0, 1, 2, 3, 4])), (14, ([1, 2, 4, 5, 8, 9, 10, 11, 12, 31, 32, 33, 44, 45, 46], [0, 1, 2, 3, 4])), (15, ([1, 2, 4, 5, 8, 9, 10, 31, 32, 33, 44, 45, 46], [0, 1, 2, 3, 4])), (16, ([1, 2, 4, 5, 8, 9, 10, 31, 32, 33, 44, 45, 46], [0, 1, 2, 3, 4])), (17, ([1, 2, 4, 5, 8, 31, 32, 33], [0, 1, 2, 3, 4])), (18, ([4, 8, 13, 14], [1, 3, 4])), (19, ([4], [1, 3, 4]))], [(0, ([1, 2, 4, 5, 17, 18, 19], [0, 1, 2, 3, 4])), (2, ([1, 2, 4, 5, 8, 31, 32, 33], [0, 1, 2, 3, 4])), (4, ([1, 2, 4, 5, 8, 9, 10, 31, 32, 33, 44, 45, 46], [0, 1, 2, 3, 4]))], [(0, ([1, 2, 4, 5], [0, 1, 2, 3, 4])), (1, ([1, 2, 4, 5, 17, 18, 19], [0, 1, 2, 3, 4])), (2, ([4, 8], [1, 3, 4])), (3, ([1, 2, 4, 5, 8, 31, 32, 33], [0, 1, 2, 3, 4])), (4, ([1, 2, 4, 5, 8, 31, 32, 33], [0, 1, 2, 3, 4])), (5, ([1, 2, 4, 5, 8, 9, 10, 31, 32, 33, 44, 45, 46], [0, 1, 2, 3, 4]))], [(15, [⟨some [], []⟩, ⟨some [], []⟩, ⟨some [3], []⟩, ⟨some [3], []⟩, ⟨some [], []⟩, ⟨some [], []⟩, ⟨some [], []⟩, ⟨some [0], []⟩, ⟨some [], []⟩, ⟨some [], []⟩, ⟨some [], []⟩, ⟨some [], []⟩, ⟨some [], []⟩, ⟨some [], []⟩, ⟨some [2], []⟩, ⟨some [4], []⟩, ⟨some [4], [4]⟩])]⟩
def rs : List RV := [.cell 4 3 true]
theorem comp_ : f70.body.bind (compile prog anno) = some top := by kernel_rfl
theorem rs_ : rvsOf prog f70.results.toList = some rs := by kernel_rfl
theorem fkS {es : List Ent} {ss : List Spe} (h : Fks prog es) (hs : Fsps prog ss) {leak : Bool} {R : List AV → AV → Prop} (k : ∀ args r, R args r → Run (ctx es ss) top rs 79 5 args r ∧ (leak = false → Fr r)) : Fk prog ⟨70, leak, R⟩ := fk_of h hs mix_ (by kernel_rfl : prog.funcs[70]? = some f70) (by kernel_rfl) comp_ rs_ k
theorem fk {es : List Ent} (h : Fks prog es) {leak : Bool} {R : List AV → AV → Prop} (k : ∀ args r, R args r → Run (ctx es) top rs 79 5 args r ∧ (leak = false → Fr r)) : Fk prog ⟨70, leak, R⟩ := fkS (ss := []) h trivial k
end C.group.group.within
-- (semigroup/group.group).maximal: semigroup/group/group.go .. 395
namespace C.group.group.maximal
def l0 : AC := .seq (.reg [⟨some 13, none, .bin .lss (.r 12) (.r 11)⟩] ([1, 3, 11, 12, 13], [0, 1])) (.seq (.cond (.r 13) .skip (.exit 0 ([3], [1]))) (.seq (.block 1 (.seq (.reg [⟨some 14, none, .mov (.r 12)⟩, ⟨some 4, none, .mov (.r 14)⟩] ([1, 3, 4, 11, 12], [0, 1])) (.seq (.dreg [⟨some 15, none, .load 3 true (.r 1)⟩, ⟨some 16, none, .sl 2 Tint 1 0 [.int .i64 0] []⟩, ⟨some 17, none, .mov (.r 3)⟩, ⟨some 18, none, .app 1000000 Tint 1 8 (.r 16) (.r 17)⟩, ⟨some 19, none, .mov (.r 4)⟩, ⟨some 20, none, .sl 3 Tint 1 1 [.int .i64 0] [(0, (.r 19))]⟩, ⟨some 21, none, .app 1000000 Tint 1 8 (.r 18) (.r 20)⟩, ⟨some 22, none, .call F_group_group_closure [(.r 15), (.r 21)]⟩, ⟨some 5, none, .mov (.r 22)⟩] ([⟨some [0], []⟩, ⟨some [2], [2]⟩, ⟨some [], []⟩, ⟨some [1, 2], [2]⟩, ⟨some [], []⟩, ⟨some [3], [3]⟩, ⟨some [2, 3], [2]⟩, ⟨some [2], []⟩, ⟨some [], []⟩]) ([1, 3, 5, 11, 12], [0, 1])) (.seq (.reg [⟨some 23, none, .mov (.r 5)⟩, ⟨some 24, none, .len (.r 23)⟩, ⟨some 25, none, .fldA 0 1 (.r 1)⟩, ⟨some 26, none, .load 1 false (.r 25)⟩, ⟨some 27, none, .len (.r 26)⟩, ⟨some 28, none, .bin .lss (.r 24) (.r 27)⟩] ([1, 3, 5, 11, 12, 28], [0, 1])) (.cond (.r 28) (.reg [⟨some 29, none, .mov (.r 5)⟩, ⟨some 3, none, .mov (.r 29)⟩] ([1, 3, 11, 12], [0, 1])) .skip))))) (.reg [⟨some 30, none, .bin .add (.r 12) (.k (.int .i64 1))⟩, ⟨some 12, none, .mov (.r 30)⟩] ([1, 3, 11, 12], [0, 1]))))
abbrev L0 : AC := .loop l0 ([1, 3, 11, 12], [0, 1])
def top : AC := .seq (.reg [⟨some 1, none, .box 0 Tgroup_group 3 (.r 0)⟩, ⟨some 2, none, .nilf true 1⟩] ([1], [0])) (.seq (.reg [⟨some 6, none, .fldA 1 1 (.r 1)⟩, ⟨some 7, none, .load 1 false (.r 6)⟩, ⟨some 8, none, .sl 1 Tint 1 1 [.int .i64 0] [(0, (.r 7))]⟩, ⟨some 3, none, .mov (.r 8)⟩] ([1, 3], [0, 1])) (.seq (.seq (.reg [⟨some 9, none, .fldA 0 1 (.r 1)⟩, ⟨some 10, none, .load 1 false (.r 9)⟩, ⟨some 11, none, .len (.r 10)⟩, ⟨some 12, none, .mov (.k (.int .i64 0))⟩] ([1, 3, 11, 12], [0, 1])) (.block 0 (.loop l0 ([1, 3, 11, 12], [0, 1])))) (.seq (.reg [⟨some 31, none, .mov (.r 3)⟩, ⟨some 2, none, .mov (.r 31)⟩] ([2], [1])) .ret)))
def anno : Anno := ⟨4, [(0, 0, 0), (0, 1, 1000000), (1, 2, 1), (5, 1, 2), (5, 5, 3)], [(0, ([1], [0])), (1, ([1, 3], [0, 1])), (2, ([1, 3, 11, 12], [0, 1])), (3, ([1, 3, 11, 12, 13], [0, 1])), (4, ([1, 3, 4, 11, 12], [0, 1])), (5, ([1, 3, 5, 11, 12], [0, 1])), (6, ([1, 3, 5, 11, 12, 28], [0, 1])), (7, ([1, 3, 11, 12], [0, 1])), (8, ([1, 3, 11, 12], [0, 1])), (9, ([2], [1]))], [(0, ([1, 3, 11, 12], [0, 1]))], [(0, ([3], [1])), (1, ([1, 3, 11, 12], [0, 1]))], [(5, [⟨some [0], []⟩, ⟨some [2], [2]⟩, ⟨some [], []⟩, ⟨some [1, 2], [2]⟩, ⟨some [], []⟩, ⟨some [3], [3]⟩, ⟨some [2, 3], [2]⟩, ⟨some [2], []⟩, ⟨some [], []⟩])]⟩
def rs : List RV := [.tm 2]
theorem comp_ : f71.body.bind (compile prog anno) = some top := by kernel_rfl
theorem rs_ : rvsOf prog f71.results.toList = some rs := by kernel_rfl
theorem fkS {es : List Ent} {ss : List Spe} (h : Fks prog es) (hs : Fsps prog ss) {leak : Bool} {R : List AV → AV → Prop} (k : ∀ args r, R args r → Run (ctx es ss) top rs 32 4 args r ∧ (leak = false → Fr r)) : Fk prog ⟨71, leak, R⟩ := fk_of h hs mix_ (by kernel_rfl : prog.funcs[71]? = some f71) (by kernel_rfl) comp_ rs_ k
theorem fk {es : List Ent} (h : Fks prog es) {leak : Bool} {R : List AV → AV → Prop} (k : ∀ args r, R args r → Run (ctx es) top rs 32 4 args r ∧ (leak = false → Fr r)) : Fk prog ⟨71, leak, R⟩ := fkS (ss := []) h trivial k
end C.group.group.maximal
-- semigroup/group.Factors$1: semigroup/group/group.go .. 487
namespace C.group.Factors_1
def top : AC := .seq (.reg [⟨some 5, none, .mov (.k (.bool false))⟩] ([0, 1, 2], [])) (.seq (.seq (.dreg [⟨some 6, none, .load 1 false (.r 2)⟩, ⟨some 7, none, .mov (.r 0)⟩, ⟨some 8, none, .idxA 2 (.r 6) (.r 7)⟩, ⟨some 9, none, .fldA 0 1 (.r 8)⟩, ⟨some 10, none, .load 1 false (.r 9)⟩, ⟨some 11, none, .load 1 false (.r 2)⟩, ⟨some 12, none, .mov (.r 1)⟩, ⟨some 13, none, .idxA 2 (.r 11) (.r 12)⟩, ⟨some 14, none, .fldA 0 1 (.r 13)⟩, ⟨some 15, none, .load 1 false (.r 14)⟩, ⟨some 16, none, .bin .neq (.r 10) (.r 15)⟩] (List.replicate 11 ⟨none, []⟩) ([0, 1, 2, 16], [])) (.cond (.r 16) (.seq (.dreg [⟨some 17, none, .load 1 false (.r 2)⟩, ⟨some 18, none, .mov (.r 0)⟩, ⟨some 19, none, .idxA 2 (.r 17) (.r 18)⟩, ⟨some 20, none, .fldA 0 1 (.r 19)⟩, ⟨some 21, none, .load 1 false (.r 20)⟩, ⟨some 22, none, .load 1 false (.r 2)⟩, ⟨some 23, none, .mov (.r 1)⟩, ⟨some 24, none, .idxA 2 (.r 22) (.r 23)⟩, ⟨some 25, none, .fldA 0 1 (.r 24)⟩, ⟨some 26, none, .load 1 false (.r 25)⟩, ⟨some 27, none, .bin .lss (.r 21) (.r 26)⟩, ⟨some 5, none, .mov (.r 27)⟩] (List.replicate 12 ⟨none, []⟩) ([5], [])) .ret) .skip)) (.seq (.reg [⟨some 28, none, .load 1 false (.r 2)⟩, ⟨some 29, none, .mov (.r 0)⟩, ⟨some 30, none, .idxA 2 (.r 28) (.r 29)⟩, ⟨some 31, none, .fldA 1 1 (.r 30)⟩, ⟨some 32, none, .load 1 false (.r 31)⟩, ⟨some 33, none, .un .not (.r 32)⟩, ⟨some 34, none, .mov (.r 33)⟩, ⟨some 35, (some (34, true)), .load 1 false (.r 2)⟩, ⟨some 36, (some (34, true)), .mov (.r 1)⟩, ⟨some 37, (some (34, true)), .idxA 2 (.r 35) (.r 36)⟩, ⟨some 38, (some (34, true)), .fldA 1 1 (.r 37)⟩, ⟨some 39, (some (34, true)), .load 1 false (.r 38)⟩, ⟨some 40, none, .pick (.r 34) (.r 39) (.k (.bool false))⟩, ⟨some 5, none, .mov (.r 40)⟩] ([5], [])) .ret))
def anno : Anno := ⟨0, [], [(0, ([0, 1, 2], [])), (1, ([0, 1, 2, 16], [])), (2, ([5], [])), (3, ([5], []))], [], [], [(1, List.replicate 11 ⟨none, []⟩), (2, List.replicate 12 ⟨none, []⟩)]⟩
def rs : List RV := [.tm 5]
theorem comp_ : f72.body.bind (compile prog anno) = some top := by kernel_rfl
theorem rs_ : rvsOf prog f72.results.toList = some rs := by kernel_rfl
theorem fkS {es : List Ent} {ss : List Spe} (h : Fks prog es) (hs : Fsps prog ss) {leak : Bool} {R : List AV → AV → Prop} (k : ∀ args r, R args r → Run (ctx es ss) top rs 41 0 args r ∧ (leak = false → Fr r)) : Fk prog ⟨72, leak, R⟩ := fk_of h hs mix_ (by kernel_rfl : prog.funcs[72]? = some f72) (by kernel_rfl) comp_ rs_ k
theorem fq {es : List Ent} (h : Fqs prog es) {leak : Bool} {R : List AV → AV → Prop} (hq : quietX (ctxQ es) top = true) (k : ∀ args r, R args r → Run (ctxQ es) top rs 41 0 args r ∧ (leak = false → Fr r)) : Fq prog ⟨72, leak, R⟩ := fq_of h mix_ (by kernel_rfl : prog.funcs[72]? = some f72) (by kernel_rfl) comp_ rs_ hq k
theorem fk {es : List Ent} (h : Fks prog es) {leak : Bool} {R : List AV → AV → Prop} (k : ∀ args r, R args r → Run (ctx es) top rs 41 0 args r ∧ (leak = false → Fr r)) : Fk prog ⟨72, leak, R⟩ := fkS (ss := []) h trivial k
end C.group.Factors_1
-- semigroup/group.inverses: semigroup/group/group.go .. 42
namespace C.group.inverses
def l2 : AC := .seq (.reg [⟨some 20, none, .bin .lss (.r 19) (.r 18)⟩] ([0, 5, 6, 7, 13, 14, 18, 19, 20], [])) (.seq (.cond (.r 20) .skip (.exit 2 ([0, 5, 6, 7, 13, 14], []))) (.seq (.block 3 (.seq (.reg [⟨some 21, none, .mov (.r 19)⟩, ⟨some 8, none, .mov (.r 21)⟩] ([0, 5, 6, 7, 8, 13, 14, 18, 19], [])) (.reg [⟨some 22, none, .mov (.r 7)⟩, ⟨some 23, none, .mov (.r 22)⟩, ⟨some 24, (some (23, true)), .mov (.r 0)⟩, ⟨some 25, (some (23, true)), .mov (.r 6)⟩, ⟨some 26, (some (23, true)), .idxA 1 (.r 24) (.r 25)⟩, ⟨some 27, (some (23, true)), .load 1 false (.r 26)⟩, ⟨some 28, (some (23, true)), .mov (.r 8)⟩, ⟨some 29, (some (23, true)), .idxA 1 (.r 27) (.r 28)⟩, ⟨some 30, (some (23, true)), .load 1 false (.r 29)⟩, ⟨some 31, (some (23, true)), .mov (.r 8)⟩, ⟨some 32, (some (23, true)), .bin .eql (.r 30) (.r 31)⟩, ⟨some 33, none, .pick (.r 23) (.r 32) (.k (.bool false))⟩, ⟨some 34, none, .mov (.r 33)⟩, ⟨some 35, (some (34, true)), .mov (.r 0)⟩, ⟨some 36, (some (34, true)), .mov (.r 8)⟩, ⟨some 37, (some (34, true)), .idxA 1 (.r 35) (.r 36)⟩, ⟨some 38, (some (34, true)), .load 1 false (.r 37)⟩, ⟨some 39, (some (34, true)), .mov (.r 6)⟩, ⟨some 40, (some (34, true)), .idxA 1 (.r 38) (.r 39)⟩, ⟨some 41, (some (34, true)), .load 1 false (.r 40)⟩, ⟨some 42, (some (34, true)), .mov (.r 8)⟩, ⟨some 43, (some (34, true)), .bin .eql (.r 41) (.r 42)⟩, ⟨some 44, none, .pick (.r 34) (.r 43) (.k (.bool false))⟩, ⟨some 7, none, .mov (.r 44)⟩] ([0, 5, 6, 7, 13, 14, 18, 19], [])))) (.reg [⟨some 45, none, .bin .add (.r 19) (.k (.int .i64 1))⟩, ⟨some 19, none, .mov (.r 45)⟩] ([0, 5, 6, 7, 13, 14, 18, 19], []))))
abbrev L2 : AC := .loop l2 ([0, 5, 6, 7, 13, 14, 18, 19], [])
def l0 : AC := .seq (.reg [⟨some 15, none, .bin .lss (.r 14) (.r 13)⟩] ([0, 5, 13, 14, 15], [])) (.seq (.cond (.r 15) .skip (.exit 0 ([0, 5], []))) (.seq (.block 1 (.seq (.reg [⟨some 16, none, .mov (.r 14)⟩, ⟨some 6, none, .mov (.r 16)⟩] ([0, 5, 6, 13, 14], [])) (.seq (.reg [⟨some 7, none, .mov (.k (.bool true))⟩] ([0, 5, 6, 7, 13, 14], [])) (.seq (.seq (.reg [⟨some 17, none, .mov (.r 0)⟩, ⟨some 18, none, .len (.r 17)⟩, ⟨some 19, none, .mov (.k (.int .i64 0))⟩] ([0, 5, 6, 7, 13, 14, 18, 19], [])) (.block 2 (.loop l2 ([0, 5, 6, 7, 13, 14, 18, 19], [])))) (.seq (.reg [⟨some 46, none, .mov (.r 7)⟩] ([0, 5, 6, 13, 14, 46], [])) (.cond (.r 46) (.seq (.reg [⟨some 47, none, .mov (.r 6)⟩, ⟨some 5, none, .mov (.r 47)⟩] ([0, 5], [])) (.exit 0 ([0, 5], []))) .skip)))))) (.reg [⟨some 48, none, .bin .add (.r 14) (.k (.int .i64 1))⟩, ⟨some 14, none, .mov (.r 48)⟩] ([0, 5, 13, 14], []))))
abbrev L0 : AC := .loop l0 ([0, 5, 13, 14], [])
def l6 : AC := .seq (.reg [⟨some 65, none, .bin .lss (.r 64) (.r 63)⟩] ([0, 5, 9, 10, 55, 56, 63, 64, 65], [0])) (.seq (.cond (.r 65) .skip (.exit 6 ([0, 5, 9, 10, 55, 56], [0]))) (.seq (.block 7 (.seq (.reg [⟨some 66, none, .mov (.r 64)⟩, ⟨some 11, none, .mov (.r 66)⟩] ([0, 5, 9, 10, 11, 55, 56, 63, 64], [0])) (.seq (.reg [⟨some 67, none, .mov (.r 0)⟩, ⟨some 68, none, .mov (.r 10)⟩, ⟨some 69, none, .idxA 1 (.r 67) (.r 68)⟩, ⟨some 70, none, .load 1 false (.r 69)⟩, ⟨some 71, none, .mov (.r 11)⟩, ⟨some 72, none, .idxA 1 (.r 70) (.r 71)⟩, ⟨some 73, none, .load 1 false (.r 72)⟩, ⟨some 74, none, .mov (.r 5)⟩, ⟨some 75, none, .bin .eql (.r 73) (.r 74)⟩, ⟨some 76, none, .mov (.r 75)⟩, ⟨some 77, (some (76, true)), .mov (.r 0)⟩, ⟨some 78, (some (76, true)), .mov (.r 11)⟩, ⟨some 79, (some (76, true)), .idxA 1 (.r 77) (.r 78)⟩, ⟨some 80, (some (76, true)), .load 1 false (.r 79)⟩, ⟨some 81, (some (76, true)), .mov (.r 10)⟩, ⟨some 82, (some (76, true)), .idxA 1 (.r 80) (.r 81)⟩, ⟨some 83, (some (76, true)), .load 1 false (.r 82)⟩, ⟨some 84, (some (76, true)), .mov (.r 5)⟩, ⟨some 85, (some (76, true)), .bin .eql (.r 83) (.r 84)⟩, ⟨some 86, none, .pick (.r 76) (.r 85) (.k (.bool false))⟩] ([0, 5, 9, 10, 11, 55, 56, 63, 64, 86], [0])) (.cond (.r 86) (.reg [⟨some 87, none, .mov (.r 9)⟩, ⟨some 88, none, .mov (.r 10)⟩, ⟨some 89, none, .mov (.r 11)⟩, ⟨some 90, none, .idxA 1 (.r 87) (.r 88)⟩, ⟨none, none, .store 1 (.r 90) (.r 89)⟩] ([0, 5, 9, 10, 55, 56, 63, 64], [0])) .skip)))) (.reg [⟨some 91, none, .bin .add (.r 64) (.k (.int .i64 1))⟩, ⟨some 64, none, .mov (.r 91)⟩] ([0, 5, 9, 10, 55, 56, 63, 64], [0]))))
abbrev L6 : AC := .loop l6 ([0, 5, 9, 10, 55, 56, 63, 64], [0])
def l4 : AC := .seq (.reg [⟨some 57, none, .bin .lss (.r 56) (.r 55)⟩] ([0, 5, 9, 55, 56, 57], [0])) (.seq (.cond (.r 57) .skip (.exit 4 ([5, 9], [0]))) (.seq (.block 5 (.seq (.reg [⟨some 58, none, .mov (.r 56)⟩, ⟨some 10, none, .mov (.r 58)⟩] ([0, 5, 9, 10, 55, 56], [0])) (.seq (.reg [⟨some 59, none, .mov (.r 9)⟩, ⟨some 60, none, .mov (.r 10)⟩, ⟨some 61, none, .idxA 1 (.r 59) (.r 60)⟩, ⟨none, none, .store 1 (.r 61) (.k (.int .i64 (-1)))⟩] ([0, 5, 9, 10, 55, 56], [0])) (.seq (.seq (.reg [⟨some 62, none, .mov (.r 0)⟩, ⟨some 63, none, .len (.r 62)⟩, ⟨some 64, none, .mov (.k (.int .i64 0))⟩] ([0, 5, 9, 10, 55, 56, 63, 64], [0])) (.block 6 (.loop l6 ([0, 5, 9, 10, 55, 56, 63, 64], [0])))) (.seq (.reg [⟨some 92, none, .mov (.r 9)⟩, ⟨some 93, none, .mov (.r 10)⟩, ⟨some 94, none, .idxA 1 (.r 92) (.r 93)⟩, ⟨some 95, none, .load 1 false (.r 94)⟩, ⟨some 96, none, .bin .lss (.r 95) (.k (.int .i64 0))⟩] ([0, 5, 9, 55, 56, 96], [0])) (.cond (.r 96) (.seq (.reg [⟨some 2, none, .mov (.k (.int .i64 0))⟩, ⟨some 3, none, .nilf true 1⟩, ⟨some 4, none, .mov (.k (.bool false))⟩] ([2, 3, 4], [0])) .ret) .skip)))))) (.reg [⟨some 97, none, .bin .add (.r 56) (.k (.int .i64 1))⟩, ⟨some 56, none, .mov (.r 97)⟩] ([0, 5, 9, 55, 56], [0]))))
abbrev L4 : AC := .loop l4 ([0, 5, 9, 55, 56], [0])
def top : AC := .seq (.reg [⟨some 2, none, .mov (.k (.int .i64 0))⟩, ⟨some 3, none, .nilf true 1⟩, ⟨some 4, none, .mov (.k (.bool false))⟩] ([0], [])) (.seq (.reg [⟨some 5, none, .mov (.k (.int .i64 (-1)))⟩] ([0, 5], [])) (.seq (.seq (.reg [⟨some 12, none, .mov (.r 0)⟩, ⟨some 13, none, .len (.r 12)⟩, ⟨some 14, none, .mov (.k (.int .i64 0))⟩] ([0, 5, 13, 14], [])) (.block 0 (.loop l0 ([0, 5, 13, 14], [])))) (.seq (.seq (.reg [⟨some 49, none, .mov (.r 5)⟩, ⟨some 50, none, .bin .lss (.r 49) (.k (.int .i64 0))⟩] ([0, 5, 50], [])) (.cond (.r 50) (.seq (.reg [⟨some 2, none, .mov (.k (.int .i64 0))⟩, ⟨some 3, none, .nilf true 1⟩, ⟨some 4, none, .mov (.k (.bool false))⟩] ([2, 3, 4], [0])) .ret) .skip)) (.seq (.reg [⟨some 51, none, .mov (.r 0)⟩, ⟨some 52, none, .len (.r 51)⟩, ⟨some 53, none, .mk 0 Tint 1 8 [.int .i64 0] (.r 52) (.r 52)⟩, ⟨some 9, none, .mov (.r 53)⟩] ([0, 5, 9], [0])) (.seq (.seq (.reg [⟨some 54, none, .mov (.r 0)⟩, ⟨some 55, none, .len (.r 54)⟩, ⟨some 56, none, .mov (.k (.int .i64 0))⟩] ([0, 5, 9, 55, 56], [0])) (.block 4 (.loop l4 ([0, 5, 9, 55, 56], [0])))) (.seq (.reg [⟨some 98, none, .mov (.r 5)⟩, ⟨some 99, none, .mov (.r 9)⟩, ⟨some 2, none, .mov (.r 98)⟩, ⟨some 3, none, .mov (.r 99)⟩, ⟨some 4, none, .mov (.k (.bool true))⟩] ([2, 3, 4], [0])) .ret))))))
def anno : Anno := ⟨1, [(0, 1, 1000000), (15, 1, 1000000), (16, 2, 0), (28, 1, 1000000)], [(0, ([0], [])), (1, ([0, 5], [])), (2, ([0, 5, 13, 14], [])), (3, ([0, 5, 13, 14, 15], [])), (4, ([0, 5, 6, 13, 14], [])), (5, ([0, 5, 6, 7, 13, 14], [])), (6, ([0, 5, 6, 7, 13, 14, 18, 19], [])), (7, ([0, 5, 6, 7, 13, 14, 18, 19, 20], [])), (8, ([0, 5, 6, 7, 8, 13, 14, 18, 19], [])), (9, ([0, 5, 6, 7, 13, 14, 18, 19], [])), (10, ([0, 5, 6, 7, 13, 14, 18, 19], [])), (11, ([0, 5, 6, 13, 14, 46], [])), (12, ([0, 5], [])), (13, ([0, 5, 13, 14], [])), (14, ([0, 5, 50], [])), (15, ([2, 3, 4], [0])), (16, ([0, 5, 9], [0])), (17, ([0, 5, 9, 55, 56], [0])), (18, ([0, 5, 9, 55, 56, 57], [0])), (19, ([0, 5, 9, 10, 55, 56], [0])), (20, ([0, 5, 9, 10, 55, 56], [0])), (21, ([0, 5, 9, 10, 55, 56, 63, 64], [0])), (22, ([0, 5, 9, 10, 55, 56, 63, 64, 65], [0])), (23, ([0, 5, 9, 10, 11, 55, 56, 63, 64], [0])), (24, ([0, 5, 9, 10, 11, 55, 56, 63, 64, 86], [0])), (25, ([0, 5, 9, 10, 55, 56, 63, 64], [0])), (26, ([0, 5, 9, 10, 55, 56, 63, 64], [0])), (27, ([0, 5, 9, 55, 56, 96], [0])), (28, ([2, 3, 4], [0])), (29, ([0, 5, 9, 55, 56], [0])), (30, ([2, 3, 4], [0]))], [(0, ([0, 5, 13, 14], [])), (2, ([0, 5, 6, 7, 13, 14, 18, 19], [])), (4, ([0, 5, 9, 55, 56], [0])), (6, ([0, 5, 9, 10, 55, 56, 63, 64], [0]))], [(0, ([0, 5], [])), (1, ([0, 5, 13, 14], [])), (2, ([0, 5, 6, 7, 13, 14], [])), (3, ([0, 5, 6, 7, 13, 14, 18, 19], [])), (4, ([5, 9], [0])), (5, ([0, 5, 9, 55, 56], [0])), (6, ([0, 5, 9, 10, 55, 56], [0])), (7, ([0, 5, 9, 10, 55, 56, 63, 64], [0]))], []⟩
def rs : List RV := [.tm 2, .tm 3, .tm 4]
theorem comp_ : f73.body.bind (compile prog anno) = some top := by kernel_rfl
theorem rs_ : rvsOf prog f73.results.toList = some rs := by kernel_rfl
theorem fkS {es : List Ent} {ss : List Spe} (h : Fks prog es) (hs : Fsps prog ss) {leak : Bool} {R : List AV → AV → Prop} (k : ∀ args r, R args r → Run (ctx es ss) top rs 100 1 args r ∧ (leak = false → Fr r)) : Fk prog ⟨73, leak, R⟩ := fk_of h hs mix_ (by kernel_rfl : prog.funcs[73]? = some f73) (by kernel_rfl) comp_ rs_ k
theorem fk {es : List Ent} (h : Fks prog es) {leak : Bool} {R : List AV → AV → Prop} (k : ∀ args r, R args r → Run (ctx es) top rs 100 1 args r ∧ (leak = false → Fr r)) : Fk prog ⟨73, leak, R⟩ := fkS (ss := []) h trivial k
end C.group.inverses
-- semigroup/group.Generate: semigroup/group/group.go .. 526
namespace C.group.Generate
def l2 : AC := .seq (.reg [⟨some 38, none, .bin .lss (.r 37) (.r 36)⟩] ([0, 5, 6, 7, 35, 36, 37, 38], [0, 1, 2])) (.seq (.cond (.r 38) .skip (.exit 2 ([0, 5, 6, 7], [0, 1, 2]))) (.seq (.block 3 (.seq (.reg [⟨some 39, none, .idxA 1 (.r 35) (.r 37)⟩, ⟨some 40, none, .load 1 false (.r 39)⟩, ⟨some 9, none, .mov (.r 40)⟩] ([0, 5, 6, 7, 9, 35, 36, 37], [0, 1, 2])) (.seq (.reg [⟨some 41, none, .load 1 false (.r 6)⟩, ⟨some 42, none, .mov (.r 7)⟩, ⟨some 43, none, .idxA 1 (.r 41) (.r 42)⟩, ⟨some 44, none, .load 1 false (.r 43)⟩, ⟨some 45, none, .mov (.r 9)⟩, ⟨some 46, none, .call F_trans_Compose [(.r 44), (.r 45)]⟩, ⟨some 10, none, .mov (.r 46)⟩] ([0, 5, 6, 7, 10, 35, 36, 37], [0, 1, 2])) (.seq (.reg [⟨some 47, none, .mov (.r 10)⟩, ⟨some 48, none, .call F_group_key [(.r 47)]⟩, ⟨some 11, none, .mov (.r 48)⟩] ([0, 5, 6, 7, 10, 11, 35, 36, 37], [0, 1, 2])) (.seq (.reg [⟨some 49, none, .mov (.r 5)⟩, ⟨some 50, none, .mov (.r 11)⟩, ⟨some 51, none, .lkp false .string (.bool false) (.r 49) (.r 50)⟩, ⟨some 52, none, .un .not (.r 51)⟩] ([0, 5, 6, 7, 10, 11, 35, 36, 37, 52], [0, 1, 2])) (.cond (.r 52) (.seq (.seq (.reg [⟨some 53, none, .load 1 false (.r 6)⟩, ⟨some 54, none, .len (.r 53)⟩, ⟨some 55, none, .bin .geq (.r 54) (.k (.int .i64 2000))⟩] ([0, 5, 6, 7, 10, 11, 35, 36, 37, 55], [0, 1, 2])) (.cond (.r 55) (.seq (.reg [⟨some 2, none, .nilf true 1⟩, ⟨some 3, none, .mov (.k (.int .i64 3))⟩] ([2, 3], [1, 2])) .ret) .skip)) (.seq (.reg [⟨some 56, none, .mov (.r 5)⟩, ⟨some 57, none, .mov (.r 11)⟩, ⟨none, none, .mset .string (.r 56) (.r 57) (.k (.bool true))⟩] ([0, 5, 6, 7, 10, 35, 36, 37], [0, 1, 2])) (.reg [⟨some 58, none, .load 1 false (.r 6)⟩, ⟨some 59, none, .mov (.r 10)⟩, ⟨some 60, none, .sl 3 TSint 1 1 [.slice none 0 0] [(0, (.r 59))]⟩, ⟨some 61, none, .app 1000000 TSint 1 24 (.r 58) (.r 60)⟩, ⟨none, none, .store 1 (.r 6) (.r 61)⟩] ([0, 5, 6, 7, 35, 36, 37], [0, 1, 2])))) .skip)))))) (.reg [⟨some 62, none, .bin .add (.r 37) (.k (.int .i64 1))⟩, ⟨some 37, none, .mov (.r 62)⟩] ([0, 5, 6, 7, 35, 36, 37], [0, 1, 2]))))
abbrev L2 : AC := .loop l2 ([0, 5, 6, 7, 35, 36, 37], [0, 1, 2])
def l0 : AC := .seq (.seq (.reg [⟨some 29, none, .mov (.r 7)⟩, ⟨some 30, none, .load 1 false (.r 6)⟩, ⟨some 31, none, .len (.r 30)⟩, ⟨some 32, none, .bin .lss (.r 29) (.r 31)⟩] ([0, 5, 6, 7, 32], [0, 1, 2])) (.cond (.r 32) .skip (.exit 0 ([6], [1, 2])))) (.seq (.block 1 (.seq (.reg [⟨some 35, none, .mov (.r 0)⟩, ⟨some 36, none, .len (.r 35)⟩, ⟨some 37, none, .mov (.k (.int .i64 0))⟩] ([0, 5, 6, 7, 35, 36, 37], [0, 1, 2])) (.block 2 (.loop l2 ([0, 5, 6, 7, 35, 36, 37], [0, 1, 2]))))) (.reg [⟨some 33, none, .mov (.r 7)⟩, ⟨some 34, none, .bin .add (.r 33) (.k (.int .i64 1))⟩, ⟨some 7, none, .mov (.r 34)⟩] ([0, 5, 6, 7], [0, 1, 2])))
abbrev L0 : AC := .loop l0 ([0, 5, 6, 7], [0, 1, 2])
def top : AC := .seq (.reg [⟨some 2, none, .nilf true 1⟩, ⟨some 3, none, .mov (.k (.int .i64 0))⟩] ([0], [])) (.seq (.seq (.reg [⟨some 12, none, .mov (.r 0)⟩, ⟨some 13, none, .len (.r 12)⟩, ⟨some 14, none, .bin .eql (.r 13) (.k (.int .i64 0))⟩] ([0, 14], [])) (.cond (.r 14) (.seq (.reg [⟨some 2, none, .nilf true 1⟩, ⟨some 3, none, .mov (.k (.int .i64 1))⟩] ([2, 3], [1, 2])) .ret) .skip)) (.seq (.seq (.reg [⟨some 15, none, .mov (.r 0)⟩, ⟨some 16, none, .call F_group_permutations [(.r 15)]⟩, ⟨some 17, none, .un .not (.r 16)⟩] ([0, 17], [])) (.cond (.r 17) (.seq (.reg [⟨some 2, none, .nilf true 1⟩, ⟨some 3, none, .mov (.k (.int .i64 4))⟩] ([2, 3], [1, 2])) .ret) .skip)) (.seq (.reg [⟨some 18, none, .mov (.r 0)⟩, ⟨some 19, none, .idxA 1 (.r 18) (.k (.int .i64 0))⟩, ⟨some 20, none, .load 1 false (.r 19)⟩, ⟨some 21, none, .len (.r 20)⟩, ⟨some 22, none, .call F_trans_Identity [(.r 21)]⟩, ⟨some 4, none, .mov (.r 22)⟩] ([0, 4], [])) (.seq (.reg [⟨some 23, none, .mkm 0 Tstring Tbool⟩, ⟨some 24, none, .mov (.r 4)⟩, ⟨some 25, none, .call F_group_key [(.r 24)]⟩, ⟨none, none, .mset .string (.r 23) (.r 25) (.k (.bool true))⟩, ⟨some 26, none, .mov (.r 23)⟩, ⟨some 5, none, .mov (.r 26)⟩] ([0, 4, 5], [0, 1, 2])) (.seq (.reg [⟨some 27, none, .mov (.r 4)⟩, ⟨some 28, none, .sl 1 TSint 1 1 [.slice none 0 0] [(0, (.r 27))]⟩, ⟨some 6, none, .alc 2 TSSint [.slice none 0 0]⟩, ⟨none, none, .store 1 (.r 6) (.r 28)⟩] ([0, 5, 6], [0, 1, 2])) (.seq (.seq (.reg [⟨some 7, none, .mov (.k (.int .i64 0))⟩] ([0, 5, 6, 7], [0, 1, 2])) (.block 0 (.loop l0 ([0, 5, 6, 7], [0, 1, 2])))) (.seq (.reg [⟨some 63, none, .load 1 false (.r 6)⟩, ⟨some 64, none, .ifc TSSint (.r 63)⟩, ⟨some 65, none, .clo F_group_Generate_1 [(.r 6)]⟩, ⟨some 66, none, .call F_sort_Slice [(.r 64), (.r 65)]⟩] ([6], [1, 2])) (.seq (.reg [⟨some 67, none, .load 1 false (.r 6)⟩, ⟨some 2, none, .mov (.r 67)⟩, ⟨some 3, none, .mov (.k (.int .i64 0))⟩] ([2, 3], [1, 2])) .ret))))))))
def anno : Anno := ⟨4, [(0, 0, 1000000), (2, 0, 1000000), (4, 0, 1000000), (6, 0, 0), (7, 1, 1), (7, 2, 2), (18, 0, 1000000), (20, 2, 3)], [(0, ([0], [])), (1, ([0, 14], [])), (2, ([2, 3], [1, 2])), (3, ([0, 17], [])), (4, ([2, 3], [1, 2])), (5, ([0, 4], [])), (6, ([0, 4, 5], [0, 1, 2])), (7, ([0, 5, 6], [0, 1, 2])), (8, ([0, 5, 6, 7], [0, 1, 2])), (9, ([0, 5, 6, 7, 32], [0, 1, 2])), (10, ([0, 5, 6, 7], [0, 1, 2])), (11, ([0, 5, 6, 7, 35, 36, 37], [0, 1, 2])), (12, ([0, 5, 6, 7, 35, 36, 37, 38], [0, 1, 2])), (13, ([0, 5, 6, 7, 9, 35, 36, 37], [0, 1, 2])), (14, ([0, 5, 6, 7, 10, 35, 36, 37], [0, 1, 2])), (15, ([0, 5, 6, 7, 10, 11, 35, 36, 37], [0, 1, 2])), (16, ([0, 5, 6, 7, 10, 11, 35, 36, 37, 52], [0, 1, 2])), (17, ([0, 5, 6, 7, 10, 11, 35, 36, 37, 55], [0, 1, 2])), (18, ([2, 3], [1, 2])), (19, ([0, 5, 6, 7, 10, 35, 36, 37], [0, 1, 2])), (20, ([0, 5, 6, 7, 35, 36, 37], [0, 1, 2])), (21, ([0, 5, 6, 7, 35, 36, 37], [0, 1, 2])), (22, ([6], [1, 2])), (23, ([2, 3], [1, 2]))], [(0, ([0, 5, 6, 7], [0, 1, 2])), (2, ([0, 5, 6, 7, 35, 36, 37], [0, 1, 2]))], [(0, ([6], [1, 2])), (1, ([0, 5, 6, 7], [0, 1, 2])), (2, ([0, 5, 6, 7], [0, 1, 2])), (3, ([0, 5, 6, 7, 35, 36, 37], [0, 1, 2]))], []⟩
def rs : List RV := [.tm 2, .tm 3]
theorem comp_ : f76.body.bind (compile prog anno) = some top := by kernel_rfl
theorem rs_ : rvsOf prog f76.results.toList = some rs := by kernel_rfl
theorem fkS {es : List Ent} {ss : List Spe} (h : Fks prog es) (hs : Fsps prog ss) {leak : Bool} {R : List AV → AV → Prop} (k : ∀ args r, R args r → Run (ctx es ss) top rs 68 4 args r ∧ (leak = false → Fr r)) : Fk prog ⟨76, leak, R⟩ := fk_of h hs mix_ (by kernel_rfl : prog.funcs[76]? = some f76) (by kernel_rfl) comp_ rs_ k
theorem fk {es : List Ent} (h : Fks prog es) {leak : Bool} {R : List AV → AV → Prop} (k : ∀ args r, R args r → Run (ctx es) top rs 68 4 args r ∧ (leak = false → Fr r)) : Fk prog ⟨76, leak, R⟩ := fkS (ss := []) h trivial k
end C.group.Generate
-- semigroup/group.Table: semigroup/group/group.go .. 558
namespace C.group.Table
def l0 : AC := .seq (.reg [⟨some 26, none, .bin .lss (.r 25) (.r 24)⟩] ([0, 4, 23, 24, 25, 26], [0, 2])) (.seq (.cond (.r 26) .skip (.exit 0 ([0, 4], [0, 2]))) (.seq (.block 1 (.seq (.reg [⟨some 27, none, .mov (.r 25)⟩, ⟨some 28, none, .idxA 1 (.r 23) (.r 25)⟩, ⟨some 29, none, .load 1 false (.r 28)⟩, ⟨some 5, none, .mov (.r 27)⟩, ⟨some 6, none, .mov (.r 29)⟩] ([0, 4, 5, 6, 23, 24, 25], [0, 2])) (.seq (.seq (.reg [⟨some 31, none, .mov (.r 4)⟩, ⟨some 32, none, .mov (.r 6)⟩, ⟨some 33, none, .call F_group_key [(.r 32)]⟩, ⟨some 34, none, .lkp true .string (.int .i64 0) (.r 31) (.r 33)⟩, ⟨some 30, none, .mov (.r 34)⟩, ⟨some 35, none, .ext 0 (.r 30)⟩, ⟨some 36, none, .ext 1 (.r 30)⟩, ⟨some 7, none, .mov (.r 35)⟩, ⟨some 8, none, .mov (.r 36)⟩] ([0, 4, 5, 6, 8, 23, 24, 25], [0, 2])) (.seq (.reg [⟨some 37, none, .mov (.r 8)⟩] ([0, 4, 5, 6, 23, 24, 25, 37], [0, 2])) (.cond (.r 37) (.seq (.reg [⟨some 2, none, .nilf true 1⟩, ⟨some 3, none, .mov (.k (.int .i64 4))⟩] ([2, 3], [1, 2])) .ret) .skip))) (.reg [⟨some 38, none, .mov (.r 4)⟩, ⟨some 39, none, .mov (.r 6)⟩, ⟨some 40, none, .call F_group_key [(.r 39)]⟩, ⟨some 41, none, .mov (.r 5)⟩, ⟨none, none, .mset .string (.r 38) (.r 40) (.r 41)⟩] ([0, 4, 23, 24, 25], [0, 2]))))) (.reg [⟨some 42, none, .bin .add (.r 25) (.k (.int .i64 1))⟩, ⟨some 25, none, .mov (.r 42)⟩] ([0, 4, 23, 24, 25], [0, 2]))))
abbrev L0 : AC := .loop l0 ([0, 4, 23, 24, 25], [0, 2])
def l4 : AC := .seq (.reg [⟨some 65, none, .bin .lss (.r 64) (.r 63)⟩] ([0, 4, 9, 10, 11, 49, 50, 51, 62, 63, 64, 65], [0, 1, 2])) (.seq (.cond (.r 65) .skip (.exit 4 ([0, 4, 9, 49, 50, 51], [0, 1, 2]))) (.seq (.block 5 (.seq (.reg [⟨some 66, none, .mov (.r 64)⟩, ⟨some 67, none, .idxA 1 (.r 62) (.r 64)⟩, ⟨some 68, none, .load 1 false (.r 67)⟩, ⟨some 12, none, .mov (.r 66)⟩, ⟨some 13, none, .mov (.r 68)⟩] ([0, 4, 9, 10, 11, 12, 13, 49, 50, 51, 62, 63, 64], [0, 1, 2])) (.seq (.reg [⟨some 70, none, .mov (.r 4)⟩, ⟨some 71, none, .mov (.r 11)⟩, ⟨some 72, none, .mov (.r 13)⟩, ⟨some 73, none, .call F_trans_Compose [(.r 71), (.r 72)]⟩, ⟨some 74, none, .call F_group_key [(.r 73)]⟩, ⟨some 75, none, .lkp true .string (.int .i64 0) (.r 70) (.r 74)⟩, ⟨some 69, none, .mov (.r 75)⟩, ⟨some 76, none, .ext 0 (.r 69)⟩, ⟨some 77, none, .ext 1 (.r 69)⟩, ⟨some 14, none, .mov (.r 76)⟩, ⟨some 15, none, .mov (.r 77)⟩] ([0, 4, 9, 10, 11, 12, 14, 15, 49, 50, 51, 62, 63, 64], [0, 1, 2])) (.seq (.seq (.reg [⟨some 78, none, .mov (.r 15)⟩, ⟨some 79, none, .un .not (.r 78)⟩] ([0, 4, 9, 10, 11, 12, 14, 49, 50, 51, 62, 63, 64, 79], [0, 1, 2])) (.cond (.r 79) (.seq (.reg [⟨some 2, none, .nilf true 1⟩, ⟨some 3, none, .mov (.k (.int .i64 9))⟩] ([2, 3], [1, 2])) .ret) .skip)) (.reg [⟨some 80, none, .mov (.r 9)⟩, ⟨some 81, none, .mov (.r 10)⟩, ⟨some 82, none, .idxA 1 (.r 80) (.r 81)⟩, ⟨some 83, none, .load 1 false (.r 82)⟩, ⟨some 84, none, .mov (.r 12)⟩, ⟨some 85, none, .mov (.r 14)⟩, ⟨some 86, none, .idxA 1 (.r 83) (.r 84)⟩, ⟨none, none, .store 1 (.r 86) (.r 85)⟩] ([0, 4, 9, 10, 11, 49, 50, 51, 62, 63, 64], [0, 1, 2])))))) (.reg [⟨some 87, none, .bin .add (.r 64) (.k (.int .i64 1))⟩, ⟨some 64, none, .mov (.r 87)⟩] ([0, 4, 9, 10, 11, 49, 50, 51, 62, 63, 64], [0, 1, 2]))))
abbrev L4 : AC := .loop l4 ([0, 4, 9, 10, 11, 49, 50, 51, 62, 63, 64], [0, 1, 2])
def l2 : AC := .seq (.reg [⟨some 52, none, .bin .lss (.r 51) (.r 50)⟩] ([0, 4, 9, 49, 50, 51, 52], [0, 1, 2])) (.seq (.cond (.r 52) .skip (.exit 2 ([9], [1, 2]))) (.seq (.block 3 (.seq (.reg [⟨some 53, none, .mov (.r 51)⟩, ⟨some 54, none, .idxA 1 (.r 49) (.r 51)⟩, ⟨some 55, none, .load 1 false (.r 54)⟩, ⟨some 10, none, .mov (.r 53)⟩, ⟨some 11, none, .mov (.r 55)⟩] ([0, 4, 9, 10, 11, 49, 50, 51], [0, 1, 2])) (.seq (.reg [⟨some 56, none, .mov (.r 9)⟩, ⟨some 57, none, .mov (.r 10)⟩, ⟨some 58, none, .mov (.r 0)⟩, ⟨some 59, none, .len (.r 58)⟩, ⟨some 60, none, .mk 2 Tint 1 8 [.int .i64 0] (.r 59) (.r 59)⟩, ⟨some 61, none, .idxA 1 (.r 56) (.r 57)⟩, ⟨none, none, .store 1 (.r 61) (.r 60)⟩] ([0, 4, 9, 10, 11, 49, 50, 51], [0, 1, 2])) (.seq (.reg [⟨some 62, none, .mov (.r 0)⟩, ⟨some 63, none, .len (.r 62)⟩, ⟨some 64, none, .mov (.k (.int .i64 0))⟩] ([0, 4, 9, 10, 11, 49, 50, 51, 62, 63, 64], [0, 1, 2])) (.block 4 (.loop l4 ([0, 4, 9, 10, 11, 49, 50, 51, 62, 63, 64], [0, 1, 2]))))))) (.reg [⟨some 88, none, .bin .add (.r 51) (.k (.int .i64 1))⟩, ⟨some 51, none, .mov (.r 88)⟩] ([0, 4, 9, 49, 50, 51], [0, 1, 2]))))
abbrev L2 : AC := .loop l2 ([0, 4, 9, 49, 50, 51], [0, 1, 2])
def top : AC := .seq (.reg [⟨some 2, none, .nilf true 1⟩, ⟨some 3, none, .mov (.k (.int .i64 0))⟩] ([0], [])) (.seq (.seq (.reg [⟨some 16, none, .mov (.r 0)⟩, ⟨some 17, none, .len (.r 16)⟩, ⟨some 18, none, .bin .eql (.r 17) (.k (.int .i64 0))⟩] ([0, 18], [])) (.cond (.r 18) (.seq (.reg [⟨some 2, none, .nilf true 1⟩, ⟨some 3, none, .mov (.k (.int .i64 1))⟩] ([2, 3], [1, 2])) .ret) .skip)) (.seq (.seq (.reg [⟨some 19, none, .mov (.r 0)⟩, ⟨some 20, none, .call F_group_permutations [(.r 19)]⟩, ⟨some 21, none, .un .not (.r 20)⟩] ([0, 21], [])) (.cond (.r 21) (.seq (.reg [⟨some 2, none, .nilf true 1⟩, ⟨some 3, none, .mov (.k (.int .i64 4))⟩] ([2, 3], [1, 2])) .ret) .skip)) (.seq (.reg [⟨some 22, none, .mkm 0 Tstring Tint⟩, ⟨some 4, none, .mov (.r 22)⟩] ([0, 4], [0, 2])) (.seq (.seq (.reg [⟨some 23, none, .mov (.r 0)⟩, ⟨some 24, none, .len (.r 23)⟩, ⟨some 25, none, .mov (.k (.int .i64 0))⟩] ([0, 4, 23, 24, 25], [0, 2])) (.block 0 (.loop l0 ([0, 4, 23, 24, 25], [0, 2])))) (.seq (.seq (.reg [⟨some 43, none, .mov (.r 0)⟩, ⟨some 44, none, .len (.r 43)⟩, ⟨some 45, none, .bin .gtr (.r 44) (.k (.int .i64 400))⟩] ([0, 4, 45], [0, 2])) (.cond (.r 45) (.seq (.reg [⟨some 2, none, .nilf true 1⟩, ⟨some 3, none, .mov (.k (.int .i64 3))⟩] ([2, 3], [1, 2])) .ret) .skip)) (.seq (.reg [⟨some 46, none, .mov (.r 0)⟩, ⟨some 47, none, .len (.r 46)⟩, ⟨some 48, none, .mk 1 TSint 1 24 [.slice none 0 0] (.r 47) (.r 47)⟩, ⟨some 9, none, .mov (.r 48)⟩] ([0, 4, 9], [0, 1, 2])) (.seq (.seq (.reg [⟨some 49, none, .mov (.r 0)⟩, ⟨some 50, none, .len (.r 49)⟩, ⟨some 51, none, .mov (.k (.int .i64 0))⟩] ([0, 4, 9, 49, 50, 51], [0, 1, 2])) (.block 2 (.loop l2 ([0, 4, 9, 49, 50, 51], [0, 1, 2])))) (.seq (.reg [⟨some 89, none, .mov (.r 9)⟩, ⟨some 2, none, .mov (.r 89)⟩, ⟨some 3, none, .mov (.k (.int .i64 0))⟩] ([2, 3], [1, 2])) .ret))))))))
def anno : Anno := ⟨3, [(0, 0, 1000000), (2, 0, 1000000), (4, 0, 1000000), (5, 0, 0), (11, 0, 1000000), (15, 0, 1000000), (16, 2, 1), (20, 4, 2), (26, 0, 1000000)], [(0, ([0], [])), (1, ([0, 18], [])), (2, ([2, 3], [1, 2])), (3, ([0, 21], [])), (4, ([2, 3], [1, 2])), (5, ([0, 4], [0, 2])), (6, ([0, 4, 23, 24, 25], [0, 2])), (7, ([0, 4, 23, 24, 25, 26], [0, 2])), (8, ([0, 4, 5, 6, 23, 24, 25], [0, 2])), (9, ([0, 4, 5, 6, 8, 23, 24, 25], [0, 2])), (10, ([0, 4, 5, 6, 23, 24, 25, 37], [0, 2])), (11, ([2, 3], [1, 2])), (12, ([0, 4, 23, 24, 25], [0, 2])), (13, ([0, 4, 23, 24, 25], [0, 2])), (14, ([0, 4, 45], [0, 2])), (15, ([2, 3], [1, 2])), (16, ([0, 4, 9], [0, 1, 2])), (17, ([0, 4, 9, 49, 50, 51], [0, 1, 2])), (18, ([0, 4, 9, 49, 50, 51, 52], [0, 1, 2])), (19, ([0, 4, 9, 10, 11, 49, 50, 51], [0, 1, 2])), (20, ([0, 4, 9, 10, 11, 49, 50, 51], [0, 1, 2])), (21, ([0, 4, 9, 10, 11, 49, 50, 51, 62, 63, 64], [0, 1, 2])), (22, ([0, 4, 9, 10, 11, 49, 50, 51, 62, 63, 64, 65], [0, 1, 2])), (23, ([0, 4, 9, 10, 11, 12, 13, 49, 50, 51, 62, 63, 64], [0, 1, 2])), (24, ([0, 4, 9, 10, 11, 12, 14, 15, 49, 50, 51, 62, 63, 64], [0, 1, 2])), (25, ([0, 4, 9, 10, 11, 12, 14, 49, 50, 51, 62, 63, 64, 79], [0, 1, 2])), (26, ([2, 3], [1, 2])), (27, ([0, 4, 9, 10, 11, 49, 50, 51, 62, 63, 64], [0, 1, 2])), (28, ([0, 4, 9, 10, 11, 49, 50, 51, 62, 63, 64], [0, 1, 2])), (29, ([0, 4, 9, 49, 50, 51], [0, 1, 2])), (30, ([2, 3], [1, 2]))], [(0, ([0, 4, 23, 24, 25], [0, 2])), (2, ([0, 4, 9, 49, 50, 51], [0, 1, 2])), (4, ([0, 4, 9, 10, 11, 49, 50, 51, 62, 63, 64], [0, 1, 2]))], [(0, ([0, 4], [0, 2])), (1, ([0, 4, 23, 24, 25], [0, 2])), (2, ([9], [1, 2])), (3, ([0, 4, 9, 49, 50, 51], [0, 1, 2])), (4, ([0, 4, 9, 49, 50, 51], [0, 1, 2])), (5, ([0, 4, 9, 10, 11, 49, 50, 51, 62, 63, 64], [0, 1, 2]))], []⟩
def rs : List RV := [.tm 2, .tm 3]
theorem comp_ : f77.body.bind (compile prog anno) = some top := by kernel_rfl
theorem rs_ : rvsOf prog f77.results.toList = some rs := by kernel_rfl
theorem fkS {es : List Ent} {ss : List Spe} (h : Fks prog es) (hs : Fsps prog ss) {leak : Bool} {R : List AV → AV → Prop} (k : ∀ args r, R args r → Run (ctx es ss) top rs 90 3 args r ∧ (leak = false → Fr r)) : Fk prog ⟨77, leak, R⟩ := fk_of h hs mix_ (by kernel_rfl : prog.funcs[77]? = some f77) (by kernel_rfl) comp_ rs_ k
theorem fk {es : List Ent} (h : Fks prog es) {leak : Bool} {R : List AV → AV → Prop} (k : ∀ args r, R args r → Run (ctx es) top rs 90 3 args r ∧ (leak = false → Fr r)) : Fk prog ⟨77, leak, R⟩ := fkS (ss := []) h trivial k
end C.group.Table
-- semigroup/partition.Discrete: semigroup/partition/partition.go .. 75
namespace C.partition.Discrete
def l0 : AC := .seq (.reg [⟨some 16, none, .bin .lss (.r 15) (.r 14)⟩] ([3, 14, 15, 16], [0])) (.seq (.cond (.r 16) .skip (.exit 0 ([3], [0]))) (.seq (.block 1 (.seq (.reg [⟨some 17, none, .mov (.r 15)⟩, ⟨some 4, none, .mov (.r 17)⟩] ([3, 4, 14, 15], [0])) (.reg [⟨some 18, none, .mov (.r 3)⟩, ⟨some 19, none, .mov (.r 4)⟩, ⟨some 20, none, .mov (.r 4)⟩, ⟨some 21, none, .idxA 1 (.r 18) (.r 19)⟩, ⟨none, none, .store 1 (.r 21) (.r 20)⟩] ([3, 14, 15], [0])))) (.reg [⟨some 22, none, .bin .add (.r 15) (.k (.int .i64 1))⟩, ⟨some 15, none, .mov (.r 22)⟩] ([3, 14, 15], [0]))))
abbrev L0 : AC := .loop l0 ([3, 14, 15], [0])
def top : AC := .seq (.reg [⟨some 2, none, .nilf true 1⟩] ([0], [])) (.seq (.seq (.reg [⟨some 5, none, .mov (.r 0)⟩, ⟨some 6, none, .bin .lss (.r 5) (.k (.int .i64 0))⟩, ⟨some 7, none, .mov (.r 6)⟩, ⟨some 8, (some (7, false)), .mov (.r 0)⟩, ⟨some 9, (some (7, false)), .bin .gtr (.r 8) (.k (.int .i64 4096))⟩, ⟨some 10, none, .pick (.r 7) (.k (.bool true)) (.r 9)⟩] ([0, 10], [])) (.cond (.r 10) (.seq (.reg [⟨some 2, none, .nilf true 1⟩] ([2], [0])) .ret) .skip)) (.seq (.reg [⟨some 11, none, .mov (.r 0)⟩, ⟨some 12, none, .mk 0 Tint 1 8 [.int .i64 0] (.r 11) (.r 11)⟩, ⟨some 3, none, .mov (.r 12)⟩] ([3], [0])) (.seq (.seq (.reg [⟨some 13, none, .mov (.r 3)⟩, ⟨some 14, none, .len (.r 13)⟩, ⟨some 15, none, .mov (.k (.int .i64 0))⟩] ([3, 14, 15], [0])) (.block 0 (.loop l0 ([3, 14, 15], [0])))) (.seq (.reg [⟨some 23, none, .mov (.r 3)⟩, ⟨some 2, none, .mov (.r 23)⟩] ([2], [0])) .ret))))
def anno : Anno := ⟨1, [(0, 0, 1000000), (2, 0, 1000000), (3, 1, 0)], [(0, ([0], [])), (1, ([0, 10], [])), (2, ([2], [0])), (3, ([3], [0])), (4, ([3, 14, 15], [0])), (5, ([3, 14, 15, 16], [0])), (6, ([3, 4, 14, 15], [0])), (7, ([3, 14, 15], [0])), (8, ([3, 14, 15], [0])), (9, ([2], [0]))], [(0, ([3, 14, 15], [0]))], [(0, ([3], [0])), (1, ([3, 14, 15], [0]))], []⟩
def rs : List RV := [.tm 2]
theorem comp_ : f78.body.bind (compile prog anno) = some top := by kernel_rfl
theorem rs_ : rvsOf prog f78.results.toList = some rs := by kernel_rfl
theorem fkS {es : List Ent} {ss : List Spe} (h : Fks prog es) (hs : Fsps prog ss) {leak : Bool} {R : List AV → AV → Prop} (k : ∀ args r, R args r → Run (ctx es ss) top rs 24 1 args r ∧ (leak = false → Fr r)) : Fk prog ⟨78, leak, R⟩ := fk_of h hs mix_ (by kernel_rfl : prog.funcs[78]? = some f78) (by kernel_rfl) comp_ rs_ k
theorem fk {es : List Ent} (h : Fks prog es) {leak : Bool} {R : List AV → AV → Prop} (k : ∀ args r, R args r → Run (ctx es) top rs 24 1 args r ∧ (leak = false → Fr r)) : Fk prog ⟨78, leak, R⟩ := fkS (ss := []) h trivial k
end C.partition.Discrete
-- semigroup/semigroupref03.Members: semigroup/semigroupref03/ref.go .. 205
namespace C.ref03.Members
def l0 : AC := .seq (.reg [⟨some 9, none, .bin .lss (.r 8) (.r 7)⟩] ([3, 6, 7, 8, 9], [0])) (.seq (.cond (.r 9) .skip (.exit 0 ([3], [0]))) (.seq (.block 1 (.seq (.reg [⟨some 10, none, .mov (.r 8)⟩, ⟨some 11, none, .idxA 1 (.r 6) (.r 8)⟩, ⟨some 12, none, .load 1 false (.r 11)⟩, ⟨some 4, none, .mov (.r 10)⟩, ⟨some 5, none, .mov (.r 12)⟩] ([3, 4, 5, 6, 7, 8], [0])) (.seq (.reg [⟨some 13, none, .mov (.r 5)⟩] ([3, 4, 6, 7, 8, 13], [0])) (.cond (.r 13) (.reg [⟨some 14, none, .mov (.r 3)⟩, ⟨some 15, none, .mov (.r 4)⟩, ⟨some 16, none, .sl 1 Tint 1 1 [.int .i64 0] [(0, (.r 15))]⟩, ⟨some 17, none, .app 1000000 Tint 1 8 (.r 14) (.r 16)⟩, ⟨some 3, none, .mov (.r 17)⟩] ([3, 6, 7, 8], [0])) .skip)))) (.reg [⟨some 18, none, .bin .add (.r 8) (.k (.int .i64 1))⟩, ⟨some 8, none, .mov (.r 18)⟩] ([3, 6, 7, 8], [0]))))
abbrev L0 : AC := .loop l0 ([3, 6, 7, 8], [0])
def top : AC := .seq (.reg [⟨some 2, none, .nilf true 1⟩] ([0], [])) (.seq (.reg [⟨some 3, none, .nilr 0 Tint 1⟩] ([0, 3], [0])) (.seq (.seq (.reg [⟨some 6, none, .mov (.r 0)⟩, ⟨some 7, none, .len (.r 6)⟩, ⟨some 8, none, .mov (.k (.int .i64 0))⟩] ([3, 6, 7, 8], [0])) (.block 0 (.loop l0 ([3, 6, 7, 8], [0])))) (.seq (.reg [⟨some 19, none, .mov (.r 3)⟩, ⟨some 2, none, .mov (.r 19)⟩] ([2], [0])) .ret)))
def anno : Anno := ⟨2, [(0, 0, 1000000), (1, 0, 0), (6, 2, 1)], [(0, ([0], [])), (1, ([0, 3], [0])), (2, ([3, 6, 7, 8], [0])), (3, ([3, 6, 7, 8, 9], [0])), (4, ([3, 4, 5, 6, 7, 8], [0])), (5, ([3, 4, 6, 7, 8, 13], [0])), (6, ([3, 6, 7, 8], [0])), (7, ([3, 6, 7, 8], [0])), (8, ([2], [0]))], [(0, ([3, 6, 7, 8], [0]))], [(0, ([3], [0])), (1, ([3, 6, 7, 8], [0]))], []⟩
def rs : List RV := [.tm 2]
theorem comp_ : f79.body.bind (compile prog anno) = some top := by kernel_rfl
theorem rs_ : rvsOf prog f79.results.toList = some rs := by kernel_rfl
theorem fkS {es : List Ent} {ss : List Spe} (h : Fks prog es) (hs : Fsps prog ss) {leak : Bool} {R : List AV → AV → Prop} (k : ∀ args r, R args r → Run (ctx es ss) top rs 20 2 args r ∧ (leak = false → Fr r)) : Fk prog ⟨79, leak, R⟩ := fk_of h hs mix_ (by kernel_rfl : prog.funcs[79]? = some f79) (by kernel_rfl) comp_ rs_ k
theorem fk {es : List Ent} (h : Fks prog es) {leak : Bool} {R : List AV → AV → Prop} (k : ∀ args r, R args r → Run (ctx es) top rs 20 2 args r ∧ (leak = false → Fr r)) : Fk prog ⟨79, leak, R⟩ := fkS (ss := []) h trivial k
end C.ref03.Members
-- semigroup/mult.shape: semigroup/mult/mult.go .. 28
namespace C.mult.shape
def l3 : AC := .seq (.reg [⟨some 29, none, .bin .lss (.r 28) (.r 27)⟩] ([0, 15, 16, 17, 26, 27, 28, 29], [])) (.seq (.cond (.r 29) .skip (.exit 3 ([0, 15, 16, 17], []))) (.seq (.block 4 (.seq (.reg [⟨some 30, none, .idxA 1 (.r 26) (.r 28)⟩, ⟨some 31, none, .load 1 false (.r 30)⟩, ⟨some 6, none, .mov (.r 31)⟩] ([0, 6, 15, 16, 17, 26, 27, 28], [])) (.seq (.reg [⟨some 32, none, .mov (.r 6)⟩, ⟨some 33, none, .bin .lss (.r 32) (.k (.int .i64 0))⟩, ⟨some 34, none, .mov (.r 33)⟩, ⟨some 35, (some (34, false)), .mov (.r 6)⟩, ⟨some 36, (some (34, false)), .mov (.r 0)⟩, ⟨some 37, (some (34, false)), .len (.r 36)⟩, ⟨some 38, (some (34, false)), .bin .geq (.r 35) (.r 37)⟩, ⟨some 39, none, .pick (.r 34) (.k (.bool true)) (.r 38)⟩] ([0, 15, 16, 17, 26, 27, 28, 39], [])) (.cond (.r 39) (.seq (.reg [⟨some 2, none, .mov (.k (.int .i64 4))⟩] ([2], [])) .ret) .skip)))) (.reg [⟨some 40, none, .bin .add (.r 28) (.k (.int .i64 1))⟩, ⟨some 28, none, .mov (.r 40)⟩] ([0, 15, 16, 17, 26, 27, 28], []))))
abbrev L3 : AC := .loop l3 ([0, 15, 16, 17, 26, 27, 28], [])
def l1 : AC := .seq (.reg [⟨some 18, none, .bin .lss (.r 17) (.r 16)⟩] ([0, 15, 16, 17, 18], [])) (.seq (.cond (.r 18) .skip (.exit 1 ([], []))) (.seq (.block 2 (.seq (.reg [⟨some 19, none, .idxA 1 (.r 15) (.r 17)⟩, ⟨some 20, none, .load 1 false (.r 19)⟩, ⟨some 4, none, .mov (.r 20)⟩] ([0, 4, 15, 16, 17], [])) (.seq (.seq (.reg [⟨some 21, none, .mov (.r 4)⟩, ⟨some 22, none, .len (.r 21)⟩, ⟨some 23, none, .mov (.r 0)⟩, ⟨some 24, none, .len (.r 23)⟩, ⟨some 25, none, .bin .neq (.r 22) (.r 24)⟩] ([0, 4, 15, 16, 17, 25], [])) (.cond (.r 25) (.seq (.reg [⟨some 2, none, .mov (.k (.int .i64 4))⟩] ([2], [])) .ret) .skip)) (.seq (.reg [⟨some 26, none, .mov (.r 4)⟩, ⟨some 27, none, .len (.r 26)⟩, ⟨some 28, none, .mov (.k (.int .i64 0))⟩] ([0, 15, 16, 17, 26, 27, 28], [])) (.block 3 (.loop l3 ([0, 15, 16, 17, 26, 27, 28], []))))))) (.reg [⟨some 41, none, .bin .add (.r 17) (.k (.int .i64 1))⟩, ⟨some 17, none, .mov (.r 41)⟩] ([0, 15, 16, 17], []))))
abbrev L1 : AC := .loop l1 ([0, 15, 16, 17], [])
def top : AC := .seq (.reg [⟨some 2, none, .mov (.k (.int .i64 0))⟩] ([0], [])) (.seq (.block 0 (.seq (.reg [⟨some 8, none, .mov (.r 0)⟩, ⟨some 9, none, .len (.r 8)⟩, ⟨some 10, none, .bin .gtr (.r 9) (.k (.int .i64 400))⟩, ⟨some 7, none, .mov (.r 10)⟩] ([0, 7], [])) (.cond (.r 7) (.seq (.reg [⟨some 2, none, .mov (.k (.int .i64 3))⟩] ([2], [])) .ret) (.seq (.reg [⟨some 12, none, .mov (.r 0)⟩, ⟨some 13, none, .len (.r 12)⟩, ⟨some 14, none, .bin .eql (.r 13) (.k (.int .i64 0))⟩, ⟨some 11, none, .mov (.r 14)⟩] ([0, 11], [])) (.cond (.r 11) (.seq (.reg [⟨some 2, none, .mov (.k (.int .i64 4))⟩] ([2], [])) .ret) .skip))))) (.seq (.seq (.reg [⟨some 15, none, .mov (.r 0)⟩, ⟨some 16, none, .len (.r 15)⟩, ⟨some 17, none, .mov (.k (.int .i64 0))⟩] ([0, 15, 16, 17], [])) (.block 1 (.loop l1 ([0, 15, 16, 17], [])))) (.seq (.reg [⟨some 2, none, .mov (.k (.int .i64 0))⟩] ([2], [])) .ret)))
def anno : Anno := ⟨0, [], [(0, ([0], [])), (1, ([0, 7], [])), (2, ([2], [])), (3, ([0, 11], [])), (4, ([2], [])), (5, ([0, 15, 16, 17], [])), (6, ([0, 15, 16, 17, 18], [])), (7, ([0, 4, 15, 16, 17], [])), (8, ([0, 4, 15, 16, 17, 25], [])), (9, ([2], [])), (10, ([0, 15, 16, 17, 26, 27, 28], [])), (11, ([0, 15, 16, 17, 26, 27, 28, 29], [])), (12, ([0, 6, 15, 16, 17, 26, 27, 28], [])), (13, ([0, 15, 16, 17, 26, 27, 28, 39], [])), (14, ([2], [])), (15, ([0, 15, 16, 17, 26, 27, 28], [])), (16, ([0, 15, 16, 17], [])), (17, ([2], []))], [(1, ([0, 15, 16, 17], [])), (3, ([0, 15, 16, 17, 26, 27, 28], []))], [(0, ([0], [])), (1, ([], [])), (2, ([0, 15, 16, 17], [])), (3, ([0, 15, 16, 17], [])), (4, ([0, 15, 16, 17, 26, 27, 28], []))], []⟩
def rs : List RV := [.tm 2]
theorem comp_ : f80.body.bind (compile prog anno) = some top := by kernel_rfl
theorem rs_ : rvsOf prog f80.results.toList = some rs := by kernel_rfl
theorem fkS {es : List Ent} {ss : List Spe} (h : Fks prog es) (hs : Fsps prog ss) {leak : Bool} {R : List AV → AV → Prop} (k : ∀ args r, R args r → Run (ctx es ss) top rs 42 0 args r ∧ (leak = false → Fr r)) : Fk prog ⟨80, leak, R⟩ := fk_of h hs mix_ (by kernel_rfl : prog.funcs[80]? = some f80) (by kernel_rfl) comp_ rs_ k
theorem fq {es : List Ent} (h : Fqs prog es) {leak : Bool} {R : List AV → AV → Prop} (hq : quietX (ctxQ es) top = true) (k : ∀ args r, R args r → Run (ctxQ es) top rs 42 0 args r ∧ (leak = false → Fr r)) : Fq prog ⟨80, leak, R⟩ := fq_of h mix_ (by kernel_rfl : prog.funcs[80]? = some f80) (by kernel_rfl) comp_ rs_ hq k
theorem fk {es : List Ent} (h : Fks prog es) {leak : Bool} {R : List AV → AV → Prop} (k : ∀ args r, R args r → Run (ctx es) top rs 42 0 args r ∧ (leak = false → Fr r)) : Fk prog ⟨80, leak, R⟩ := fkS (ss := []) h trivial k
end C.mult.shape
-- semigroup/mult.failing: semigroup/mult/mult.go .. 42
namespace C.mult.failing
def l4 : AC := .seq (.reg [⟨some 22, none, .bin .lss (.r 21) (.r 20)⟩] ([0, 6, 7, 10, 11, 15, 16, 20, 21, 22], [])) (.seq (.cond (.r 22) .skip (.exit 4 ([0, 6, 10, 11, 15, 16], []))) (.seq (.block 5 (.seq (.reg [⟨some 23, none, .mov (.r 21)⟩, ⟨some 8, none, .mov (.r 23)⟩] ([0, 6, 7, 8, 10, 11, 15, 16, 20, 21], [])) (.seq (.dreg [⟨some 24, none, .mov (.r 0)⟩, ⟨some 25, none, .mov (.r 0)⟩, ⟨some 26, none, .mov (.r 6)⟩, ⟨some 27, none, .idxA 1 (.r 25) (.r 26)⟩, ⟨some 28, none, .load 1 false (.r 27)⟩, ⟨some 29, none, .mov (.r 7)⟩, ⟨some 30, none, .idxA 1 (.r 28) (.r 29)⟩, ⟨some 31, none, .load 1 false (.r 30)⟩, ⟨some 32, none, .idxA 1 (.r 24) (.r 31)⟩, ⟨some 33, none, .load 1 false (.r 32)⟩, ⟨some 34, none, .mov (.r 8)⟩, ⟨some 35, none, .idxA 1 (.r 33) (.r 34)⟩, ⟨some 36, none, .load 1 false (.r 35)⟩, ⟨some 37, none, .mov (.r 0)⟩, ⟨some 38, none, .mov (.r 6)⟩, ⟨some 39, none, .idxA 1 (.r 37) (.r 38)⟩, ⟨some 40, none, .load 1 false (.r 39)⟩, ⟨some 41, none, .mov (.r 0)⟩, ⟨some 42, none, .mov (.r 7)⟩, ⟨some 43, none, .idxA 1 (.r 41) (.r 42)⟩, ⟨some 44, none, .load 1 false (.r 43)⟩, ⟨some 45, none, .mov (.r 8)⟩, ⟨some 46, none, .idxA 1 (.r 44) (.r 45)⟩, ⟨some 47, none, .load 1 false (.r 46)⟩, ⟨some 48, none, .idxA 1 (.r 40) (.r 47)⟩, ⟨some 49, none, .load 1 false (.r 48)⟩, ⟨some 50, none, .bin .neq (.r 36) (.r 49)⟩] (List.replicate 27 ⟨none, []⟩) ([0, 6, 7, 8, 10, 11, 15, 16, 20, 21, 50], [])) (.cond (.r 50) (.seq (.reg [⟨some 51, none, .mov (.r 6)⟩, ⟨some 52, none, .mov (.r 7)⟩, ⟨some 53, none, .mov (.r 8)⟩, ⟨some 2, none, .mov (.r 51)⟩, ⟨some 3, none, .mov (.r 52)⟩, ⟨some 4, none, .mov (.r 53)⟩, ⟨some 5, none, .mov (.k (.bool true))⟩] ([2, 3, 4, 5], [])) .ret) .skip)))) (.reg [⟨some 54, none, .bin .add (.r 21) (.k (.int .i64 1))⟩, ⟨some 21, none, .mov (.r 54)⟩] ([0, 6, 7, 10, 11, 15, 16, 20, 21], []))))
abbrev L4 : AC := .loop l4 ([0, 6, 7, 10, 11, 15, 16, 20, 21], [])
def l2 : AC := .seq (.reg [⟨some 17, none, .bin .lss (.r 16) (.r 15)⟩] ([0, 6, 10, 11, 15, 16, 17], [])) (.seq (.cond (.r 17) .skip (.exit 2 ([0, 10, 11], []))) (.seq (.block 3 (.seq (.reg [⟨some 18, none, .mov (.r 16)⟩, ⟨some 7, none, .mov (.r 18)⟩] ([0, 6, 7, 10, 11, 15, 16], [])) (.seq (.reg [⟨some 19, none, .mov (.r 0)⟩, ⟨some 20, none, .len (.r 19)⟩, ⟨some 21, none, .mov (.k (.int .i64 0))⟩] ([0, 6, 7, 10, 11, 15, 16, 20, 21], [])) (.block 4 (.loop l4 ([0, 6, 7, 10, 11, 15, 16, 20, 21], [])))))) (.reg [⟨some 55, none, .bin .add (.r 16) (.k (.int .i64 1))⟩, ⟨some 16, none, .mov (.r 55)⟩] ([0, 6, 10, 11, 15, 16], []))))
abbrev L2 : AC := .loop l2 ([0, 6, 10, 11, 15, 16], [])
def l0 : AC := .seq (.reg [⟨some 12, none, .bin .lss (.r 11) (.r 10)⟩] ([0, 10, 11, 12], [])) (.seq (.cond (.r 12) .skip (.exit 0 ([], []))) (.seq (.block 1 (.seq (.reg [⟨some 13, none, .mov (.r 11)⟩, ⟨some 6, none, .mov (.r 13)⟩] ([0, 6, 10, 11], [])) (.seq (.reg [⟨some 14, none, .mov (.r 0)⟩, ⟨some 15, none, .len (.r 14)⟩, ⟨some 16, none, .mov (.k (.int .i64 0))⟩] ([0, 6, 10, 11, 15, 16], [])) (.block 2 (.loop l2 ([0, 6, 10, 11, 15, 16], [])))))) (.reg [⟨some 56, none, .bin .add (.r 11) (.k (.int .i64 1))⟩, ⟨some 11, none, .mov (.r 56)⟩] ([0, 10, 11], []))))
abbrev L0 : AC := .loop l0 ([0, 10, 11], [])
def top : AC := .seq (.reg [⟨some 2, none, .mov (.k (.int .i64 0))⟩, ⟨some 3, none, .mov (.k (.int .i64 0))⟩, ⟨some 4, none, .mov (.k (.int .i64 0))⟩, ⟨some 5, none, .mov (.k (.bool false))⟩] ([0], [])) (.seq (.seq (.reg [⟨some 9, none, .mov (.r 0)⟩, ⟨some 10, none, .len (.r 9)⟩, ⟨some 11, none, .mov (.k (.int .i64 0))⟩] ([0, 10, 11], [])) (.block 0 (.loop l0 ([0, 10, 11], [])))) (.seq (.reg [⟨some 2, none, .mov (.k (.int .i64 0))⟩, ⟨some 3, none, .mov (.k (.int .i64 0))⟩, ⟨some 4, none, .mov (.k (.int .i64 0))⟩, ⟨some 5, none, .mov (.k (.bool false))⟩] ([2, 3, 4, 5], [])) .ret))
def anno : Anno := ⟨0, [], [(0, ([0], [])), (1, ([0, 10, 11], [])), (2, ([0, 10, 11, 12], [])), (3, ([0, 6, 10, 11], [])), (4, ([0, 6, 10, 11, 15, 16], [])), (5, ([0, 6, 10, 11, 15, 16, 17], [])), (6, ([0, 6, 7, 10, 11, 15, 16], [])), (7, ([0, 6, 7, 10, 11, 15, 16, 20, 21], [])), (8, ([0, 6, 7, 10, 11, 15, 16, 20, 21, 22], [])), (9, ([0, 6, 7, 8, 10, 11, 15, 16, 20, 21], [])), (10, ([0, 6, 7, 8, 10, 11, 15, 16, 20, 21, 50], [])), (11, ([2, 3, 4, 5], [])), (12, ([0, 6, 7, 10, 11, 15, 16, 20, 21], [])), (13, ([0, 6, 10, 11, 15, 16], [])), (14, ([0, 10, 11], [])), (15, ([2, 3, 4, 5], []))], [(0, ([0, 10, 11], [])), (2, ([0, 6, 10, 11, 15, 16], [])), (4, ([0, 6, 7, 10, 11, 15, 16, 20, 21], []))], [(0, ([], [])), (1, ([0, 10, 11], [])), (2, ([0, 10, 11], [])), (3, ([0, 6, 10, 11, 15, 16], [])), (4, ([0, 6, 10, 11, 15, 16], [])), (5, ([0, 6, 7, 10, 11, 15, 16, 20, 21], []))], [(10, List.replicate 27 ⟨none, []⟩)]⟩
def rs : List RV := [.tm 2, .tm 3, .tm 4, .tm 5]
theorem comp_ : f81.body.bind (compile prog anno) = some top := by kernel_rfl
theorem rs_ : rvsOf prog f81.results.toList = some rs := by kernel_rfl
theorem fkS {es : List Ent} {ss : List Spe} (h : Fks prog es) (hs : Fsps prog ss) {leak : Bool} {R : List AV → AV → Prop} (k : ∀ args r, R args r → Run (ctx es ss) top rs 57 0 args r ∧ (leak = false → Fr r)) : Fk prog ⟨81, leak, R⟩ := fk_of h hs mix_ (by kernel_rfl : prog.funcs[81]? = some f81) (by kernel_rfl) comp_ rs_ k
theorem fq {es : List Ent} (h : Fqs prog es) {leak : Bool} {R : List AV → AV → Prop} (hq : quietX (ctxQ es) top = true) (k : ∀ args r, R args r → Run (ctxQ es) top rs 57 0 args r ∧ (leak = false → Fr r)) : Fq prog ⟨81, leak, R⟩ := fq_of h mix_ (by kernel_rfl : prog.funcs[81]? = some f81) (by kernel_rfl) comp_ rs_ hq k
theorem fk {es : List Ent} (h : Fks prog es) {leak : Bool} {R : List AV → AV → Prop} (k : ∀ args r, R args r → Run (ctx es) top rs 57 0 args r ∧ (leak = false → Fr r)) : Fk prog ⟨81, leak, R⟩ := fkS (ss := []) h trivial k
end C.mult.failing
-- semigroup/group.permutations: semigroup/group/group.go .. 499
namespace C.group.permutations
def l0 : AC := .seq (.reg [⟨some 8, none, .bin .lss (.r 7) (.r 6)⟩] ([0, 5, 6, 7, 8], [])) (.seq (.cond (.r 8) .skip (.exit 0 ([], []))) (.seq (.block 1 (.seq (.reg [⟨some 9, none, .idxA 1 (.r 5) (.r 7)⟩, ⟨some 10, none, .load 1 false (.r 9)⟩, ⟨some 4, none, .mov (.r 10)⟩] ([0, 4, 5, 6, 7], [])) (.seq (.reg [⟨some 11, none, .mov (.r 4)⟩, ⟨some 12, none, .call F_trans_IsPermutation [(.r 11)]⟩, ⟨some 13, none, .un .not (.r 12)⟩, ⟨some 14, none, .mov (.r 13)⟩, ⟨some 15, (some (14, false)), .mov (.r 4)⟩, ⟨some 16, (some (14, false)), .len (.r 15)⟩, ⟨some 17, (some (14, false)), .mov (.r 0)⟩, ⟨some 18, (some (14, false)), .idxA 1 (.r 17) (.k (.int .i64 0))⟩, ⟨some 19, (some (14, false)), .load 1 false (.r 18)⟩, ⟨some 20, (some (14, false)), .len (.r 19)⟩, ⟨some 21, (some (14, false)), .bin .neq (.r 16) (.r 20)⟩, ⟨some 22, none, .pick (.r 14) (.k (.bool true)) (.r 21)⟩] ([0, 5, 6, 7, 22], [])) (.cond (.r 22) (.seq (.reg [⟨some 2, none, .mov (.k (.bool false))⟩] ([2], [])) .ret) .skip)))) (.reg [⟨some 23, none, .bin .add (.r 7) (.k (.int .i64 1))⟩, ⟨some 7, none, .mov (.r 23)⟩] ([0, 5, 6, 7], []))))
abbrev L0 : AC := .loop l0 ([0, 5, 6, 7], [])
def top : AC := .seq (.reg [⟨some 2, none, .mov (.k (.bool false))⟩] ([0], [])) (.seq (.seq (.reg [⟨some 5, none, .mov (.r 0)⟩, ⟨some 6, none, .len (.r 5)⟩, ⟨some 7, none, .mov (.k (.int .i64 0))⟩] ([0, 5, 6, 7], [])) (.block 0 (.loop l0 ([0, 5, 6, 7], [])))) (.seq (.reg [⟨some 2, none, .mov (.k (.bool true))⟩] ([2], [])) .ret))
def anno : Anno := ⟨0, [], [(0, ([0], [])), (1, ([0, 5, 6, 7], [])), (2, ([0, 5, 6, 7, 8], [])), (3, ([0, 4, 5, 6, 7], [])), (4, ([0, 5, 6, 7, 22], [])), (5, ([2], [])), (6, ([0, 5, 6, 7], [])), (7, ([2], []))], [(0, ([0, 5, 6, 7], []))], [(0, ([], [])), (1, ([0, 5, 6, 7], []))], []⟩
def rs : List RV := [.tm 2]
theorem comp_ : f90.body.bind (compile prog anno) = some top := by kernel_rfl
theorem rs_ : rvsOf prog f90.results.toList = some rs := by kernel_rfl
theorem fkS {es : List Ent} {ss : List Spe} (h : Fks prog es) (hs : Fsps prog ss) {leak : Bool} {R : List AV → AV → Prop} (k : ∀ args r, R args r → Run (ctx es ss) top rs 24 0 args r ∧ (leak = false → Fr r)) : Fk prog ⟨90, leak, R⟩ := fk_of h hs mix_ (by kernel_rfl : prog.funcs[90]? = some f90) (by kernel_rfl) comp_ rs_ k
theorem fq {es : List Ent} (h : Fqs prog es) {leak : Bool} {R : List AV → AV → Prop} (hq : quietX (ctxQ es) top = true) (k : ∀ args r, R args r → Run (ctxQ es) top rs 24 0 args r ∧ (leak = false → Fr r)) : Fq prog ⟨90, leak, R⟩ := fq_of h mix_ (by kernel_rfl : prog.funcs[90]? = some f90) (by kernel_rfl) comp_ rs_ hq k
theorem fk {es : List Ent} (h : Fks prog es) {leak : Bool} {R : List AV → AV → Prop} (k : ∀ args r, R args r → Run (ctx es) top rs 24 0 args r ∧ (leak = false → Fr r)) : Fk prog ⟨90, leak, R⟩ := fkS (ss := []) h trivial k
end C.group.permutations
-- semigroup/trans.Identity: semigroup/trans/trans.go .. 30
namespace C.trans.Identity
def top : AC := .seq (.reg [⟨some 2, none, .nilf true 1⟩] ([0], [])) (.seq (.seq (.reg [⟨some 3, none, .mov (.r 0)⟩, ⟨some 4, none, .bin .lss (.r 3) (.k (.int .i64 1))⟩, ⟨some 5, none, .mov (.r 4)⟩, ⟨some 6, (some (5, false)), .mov (.r 0)⟩, ⟨some 7, (some (5, false)), .bin .gtr (.r 6) (.k (.int .i64 32))⟩, ⟨some 8, none, .pick (.r 5) (.k (.bool true)) (.r 7)⟩] ([0, 8], [])) (.cond (.r 8) (.seq (.reg [⟨some 2, none, .nilf true 1⟩] ([2], [])) .ret) .skip)) (.seq (.reg [⟨some 9, none, .mov (.r 0)⟩, ⟨some 10, none, .call F_partition_Discrete [(.r 9)]⟩, ⟨some 2, none, .mov (.r 10)⟩] ([2], [])) .ret))
def anno : Anno := ⟨0, [(0, 0, 1000000), (2, 0, 1000000)], [(0, ([0], [])), (1, ([0, 8], [])), (2, ([2], [])), (3, ([2], []))], [], [], []⟩
def rs : List RV := [.tm 2]
theorem comp_ : f91.body.bind (compile prog anno) = some top := by kernel_rfl
theorem rs_ : rvsOf prog f91.results.toList = some rs := by kernel_rfl
theorem fkS {es : List Ent} {ss : List Spe} (h : Fks prog es) (hs : Fsps prog ss) {leak : Bool} {R : List AV → AV → Prop} (k : ∀ args r, R args r → Run (ctx es ss) top rs 11 0 args r ∧ (leak = false → Fr r)) : Fk prog ⟨91, leak, R⟩ := fk_of h hs mix_ (by kernel_rfl : prog.funcs[91]? = some f91) (by kernel_rfl) comp_ rs_ k
theorem fq {es : List Ent} (h : Fqs prog es) {leak : Bool} {R : List AV → AV → Prop} (hq : quietX (ctxQ es) top = true) (k : ∀ args r, R args r → Run (ctxQ es) top rs 11 0 args r ∧ (leak = false → Fr r)) : Fq prog ⟨91, leak, R⟩ := fq_of h mix_ (by kernel_rfl : prog.funcs[91]? = some f91) (by kernel_rfl) comp_ rs_ hq k
theorem fk {es : List Ent} (h : Fks prog es) {leak : Bool} {R : List AV → AV → Prop} (k : ∀ args r, R args r → Run (ctx es) top rs 11 0 args r ∧ (leak = false → Fr r)) : Fk prog ⟨91, leak, R⟩ := fkS (ss := []) h trivial k
end C.trans.Identity
-- semigroup/trans.Compose: semigroup/trans/trans.go .. 47
namespace C.trans.Compose
def top : AC := .seq (.reg [⟨some 4, none, .nilf true 1⟩] ([0, 1], [])) (.seq (.seq (.reg [⟨some 5, none, .mov (.r 0)⟩, ⟨some 6, none, .len (.r 5)⟩, ⟨some 7, none, .mov (.r 1)⟩, ⟨some 8, none, .len (.r 7)⟩, ⟨some 9, none, .bin .neq (.r 6) (.r 8)⟩, ⟨some 10, none, .mov (.r 9)⟩, ⟨some 11, (some (10, false)), .mov (.r 0)⟩, ⟨some 12, (some (10, false)), .call F_trans_Valid [(.r 11)]⟩, ⟨some 13, (some (10, false)), .un .not (.r 12)⟩, ⟨some 14, none, .pick (.r 10) (.k (.bool true)) (.r 13)⟩, ⟨some 15, none, .mov (.r 14)⟩, ⟨some 16, (some (15, false)), .mov (.r 1)⟩, ⟨some 17, (some (15, false)), .call F_trans_Valid [(.r 16)]⟩, ⟨some 18, (some (15, false)), .un .not (.r 17)⟩, ⟨some 19, none, .pick (.r 15) (.k (.bool true)) (.r 18)⟩] ([0, 1, 19], [])) (.cond (.r 19) (.seq (.reg [⟨some 4, none, .nilf true 1⟩] ([4], [])) .ret) .skip)) (.seq (.reg [⟨some 20, none, .mov (.r 0)⟩, ⟨some 21, none, .mov (.r 1)⟩, ⟨some 22, none, .call F_trans_compose [(.r 20), (.r 21)]⟩, ⟨some 4, none, .mov (.r 22)⟩] ([4], [])) .ret))
def anno : Anno := ⟨0, [(0, 0, 1000000), (2, 0, 1000000)], [(0, ([0, 1], [])), (1, ([0, 1, 19], [])), (2, ([4], [])), (3, ([4], []))], [], [], []⟩
def rs : List RV := [.tm 4]
theorem comp_ : f92.body.bind (compile prog anno) = some top := by kernel_rfl
theorem rs_ : rvsOf prog f92.results.toList = some rs := by kernel_rfl
theorem fkS {es : List Ent} {ss : List Spe} (h : Fks prog es) (hs : Fsps prog ss) {leak : Bool} {R : List AV → AV → Prop} (k : ∀ args r, R args r → Run (ctx es ss) top rs 23 0 args r ∧ (leak = false → Fr r)) : Fk prog ⟨92, leak, R⟩ := fk_of h hs mix_ (by kernel_rfl : prog.funcs[92]? = some f92) (by kernel_rfl) comp_ rs_ k
theorem fq {es : List Ent} (h : Fqs prog es) {leak : Bool} {R : List AV → AV → Prop} (hq : quietX (ctxQ es) top = true) (k : ∀ args r, R args r → Run (ctxQ es) top rs 23 0 args r ∧ (leak = false → Fr r)) : Fq prog ⟨92, leak, R⟩ := fq_of h mix_ (by kernel_rfl : prog.funcs[92]? = some f92) (by kernel_rfl) comp_ rs_ hq k
theorem fk {es : List Ent} (h : Fks prog es) {leak : Bool} {R : List AV → AV → Prop} (k : ∀ args r, R args r → Run (ctx es) top rs 23 0 args r ∧ (leak = false → Fr r)) : Fk prog ⟨92, leak, R⟩ := fkS (ss := []) h trivial k
end C.trans.Compose
-- semigroup/group.Generate$1: semigroup/group/group.go .. 524
namespace C.group.Generate_1
def top : AC := .seq (.reg [⟨some 5, none, .mov (.k (.bool false))⟩] ([0, 1, 2], [])) (.seq (.dreg [⟨some 6, none, .load 1 false (.r 2)⟩, ⟨some 7, none, .mov (.r 0)⟩, ⟨some 8, none, .idxA 1 (.r 6) (.r 7)⟩, ⟨some 9, none, .load 1 false (.r 8)⟩, ⟨some 10, none, .load 1 false (.r 2)⟩, ⟨some 11, none, .mov (.r 1)⟩, ⟨some 12, none, .idxA 1 (.r 10) (.r 11)⟩, ⟨some 13, none, .load 1 false (.r 12)⟩, ⟨some 14, none, .call F_group_lessList [(.r 9), (.r 13)]⟩, ⟨some 5, none, .mov (.r 14)⟩] (List.replicate 10 ⟨none, []⟩) ([5], [])) .ret)
def anno : Anno := ⟨0, [], [(0, ([0, 1, 2], [])), (1, ([5], []))], [], [], [(1, List.replicate 10 ⟨none, []⟩)]⟩
def rs : List RV := [.tm 5]
theorem comp_ : f93.body.bind (compile prog anno) = some top := by kernel_rfl
theorem rs_ : rvsOf prog f93.results.toList = some rs := by kernel_rfl
theorem fkS {es : List Ent} {ss : List Spe} (h : Fks prog es) (hs : Fsps prog ss) {leak : Bool} {R : List AV → AV → Prop} (k : ∀ args r, R args r → Run (ctx es ss) top rs 15 0 args r ∧ (leak = false → Fr r)) : Fk prog ⟨93, leak, R⟩ := fk_of h hs mix_ (by kernel_rfl : prog.funcs[93]? = some f93) (by kernel_rfl) comp_ rs_ k
theorem fq {es : List Ent} (h : Fqs prog es) {leak : Bool} {R : List AV → AV → Prop} (hq : quietX (ctxQ es) top = true) (k : ∀ args r, R args r → Run (ctxQ es) top rs 15 0 args r ∧ (leak = false → Fr r)) : Fq prog ⟨93, leak, R⟩ := fq_of h mix_ (by kernel_rfl : prog.funcs[93]? = some f93) (by kernel_rfl) comp_ rs_ hq k
theorem fk {es : List Ent} (h : Fks prog es) {leak : Bool} {R : List AV → AV → Prop} (k : ∀ args r, R args r → Run (ctx es) top rs 15 0 args r ∧ (leak = false → Fr r)) : Fk prog ⟨93, leak, R⟩ := fkS (ss := []) h trivial k
end C.group.Generate_1
-- semigroup/semigroupref03.Less: semigroup/semigroupref03/ref.go .. 182
namespace C.ref03.Less
def l0 : AC := .seq (.seq (.reg [⟨some 6, none, .mov (.r 5)⟩, ⟨some 7, none, .mov (.r 0)⟩, ⟨some 8, none, .len (.r 7)⟩, ⟨some 9, none, .bin .lss (.r 6) (.r 8)⟩, ⟨some 10, none, .mov (.r 9)⟩, ⟨some 11, (some (10, true)), .mov (.r 5)⟩, ⟨some 12, (some (10, true)), .mov (.r 1)⟩, ⟨some 13, (some (10, true)), .len (.r 12)⟩, ⟨some 14, (some (10, true)), .bin .lss (.r 11) (.r 13)⟩, ⟨some 15, none, .pick (.r 10) (.r 14) (.k (.bool false))⟩] ([0, 1, 5, 15], [])) (.cond (.r 15) .skip (.exit 0 ([0, 1], [])))) (.seq (.block 1 (.seq (.dreg [⟨some 18, none, .mov (.r 0)⟩, ⟨some 19, none, .mov (.r 5)⟩, ⟨some 20, none, .idxA 1 (.r 18) (.r 19)⟩, ⟨some 21, none, .load 1 false (.r 20)⟩, ⟨some 22, none, .mov (.r 1)⟩, ⟨some 23, none, .mov (.r 5)⟩, ⟨some 24, none, .idxA 1 (.r 22) (.r 23)⟩, ⟨some 25, none, .load 1 false (.r 24)⟩, ⟨some 26, none, .bin .neq (.r 21) (.r 25)⟩] (List.replicate 9 ⟨none, []⟩) ([0, 1, 5, 26], [])) (.cond (.r 26) (.seq (.dreg [⟨some 27, none, .mov (.r 0)⟩, ⟨some 28, none, .mov (.r 5)⟩, ⟨some 29, none, .idxA 1 (.r 27) (.r 28)⟩, ⟨some 30, none, .load 1 false (.r 29)⟩, ⟨some 31, none, .mov (.r 1)⟩, ⟨some 32, none, .mov (.r 5)⟩, ⟨some 33, none, .idxA 1 (.r 31) (.r 32)⟩, ⟨some 34, none, .load 1 false (.r 33)⟩, ⟨some 35, none, .bin .lss (.r 30) (.r 34)⟩, ⟨some 4, none, .mov (.r 35)⟩] (List.replicate 10 ⟨none, []⟩) ([4], [])) .ret) .skip))) (.reg [⟨some 16, none, .mov (.r 5)⟩, ⟨some 17, none, .bin .add (.r 16) (.k (.int .i64 1))⟩, ⟨some 5, none, .mov (.r 17)⟩] ([0, 1, 5], [])))
abbrev L0 : AC := .loop l0 ([0, 1, 5], [])
def top : AC := .seq (.reg [⟨some 4, none, .mov (.k (.bool false))⟩] ([0, 1], [])) (.seq (.seq (.reg [⟨some 5, none, .mov (.k (.int .i64 0))⟩] ([0, 1, 5], [])) (.block 0 (.loop l0 ([0, 1, 5], [])))) (.seq (.reg [⟨some 36, none, .mov (.r 0)⟩, ⟨some 37, none, .len (.r 36)⟩, ⟨some 38, none, .mov (.r 1)⟩, ⟨some 39, none, .len (.r 38)⟩, ⟨some 40, none, .bin .lss (.r 37) (.r 39)⟩, ⟨some 4, none, .mov (.r 40)⟩] ([4], [])) .ret))
def anno : Anno := ⟨0, [], [(0, ([0, 1], [])), (1, ([0, 1, 5], [])), (2, ([0, 1, 5, 15], [])), (3, ([0, 1, 5], [])), (4, ([0, 1, 5, 26], [])), (5, ([4], [])), (6, ([4], []))], [(0, ([0, 1, 5], []))], [(0, ([0, 1], [])), (1, ([0, 1, 5], []))], [(4, List.replicate 9 ⟨none, []⟩), (5, List.replicate 10 ⟨none, []⟩)]⟩
def rs : List RV := [.tm 4]
theorem comp_ : f114.body.bind (compile prog anno) = some top := by kernel_rfl
theorem rs_ : rvsOf prog f114.results.toList = some rs := by kernel_rfl
theorem fkS {es : List Ent} {ss : List Spe} (h : Fks prog es) (hs : Fsps prog ss) {leak : Bool} {R : List AV → AV → Prop} (k : ∀ args r, R args r → Run (ctx es ss) top rs 41 0 args r ∧ (leak = false → Fr r)) : Fk prog ⟨114, leak, R⟩ := fk_of h hs mix_ (by kernel_rfl : prog.funcs[114]? = some f114) (by kernel_rfl) comp_ rs_ k
theorem fq {es : List Ent} (h : Fqs prog es) {leak : Bool} {R : List AV → AV → Prop} (hq : quietX (ctxQ es) top = true) (k : ∀ args r, R args r → Run (ctxQ es) top rs 41 0 args r ∧ (leak = false → Fr r)) : Fq prog ⟨114, leak, R⟩ := fq_of h mix_ (by kernel_rfl : prog.funcs[114]? = some f114) (by kernel_rfl) comp_ rs_ hq k
theorem fk {es : List Ent} (h : Fks prog es) {leak : Bool} {R : List AV → AV → Prop} (k : ∀ args r, R args r → Run (ctx es) top rs 41 0 args r ∧ (leak = false → Fr r)) : Fk prog ⟨114, leak, R⟩ := fkS (ss := []) h trivial k
end C.ref03.Less
-- semigroup/trans.IsPermutation: semigroup/trans/trans.go .. 133
namespace C.trans.IsPermutation
def top : AC := .seq (.reg [⟨some 2, none, .mov (.k (.bool false))⟩] ([0], [])) (.seq (.reg [⟨some 3, none, .mov (.r 0)⟩, ⟨some 4, none, .call F_trans_Valid [(.r 3)]⟩, ⟨some 5, none, .mov (.r 4)⟩, ⟨some 6, (some (5, true)), .mov (.r 0)⟩, ⟨some 7, (some (5, true)), .call F_trans_Rank [(.r 6)]⟩, ⟨some 8, (some (5, true)), .mov (.r 0)⟩, ⟨some 9, (some (5, true)), .len (.r 8)⟩, ⟨some 10, (some (5, true)), .bin .eql (.r 7) (.r 9)⟩, ⟨some 11, none, .pick (.r 5) (.r 10) (.k (.bool false))⟩, ⟨some 2, none, .mov (.r 11)⟩] ([2], [])) .ret)
def anno : Anno := ⟨0, [], [(0, ([0], [])), (1, ([2], []))], [], [], []⟩
def rs : List RV := [.tm 2]
theorem comp_ : f115.body.bind (compile prog anno) = some top := by kernel_rfl
theorem rs_ : rvsOf prog f115.results.toList = some rs := by kernel_rfl
theorem fkS {es : List Ent} {ss : List Spe} (h : Fks prog es) (hs : Fsps prog ss) {leak : Bool} {R : List AV → AV → Prop} (k : ∀ args r, R args r → Run (ctx es ss) top rs 12 0 args r ∧ (leak = false → Fr r)) : Fk prog ⟨115, leak, R⟩ := fk_of h hs mix_ (by kernel_rfl : prog.funcs[115]? = some f115) (by kernel_rfl) comp_ rs_ k
theorem fq {es : List Ent} (h : Fqs prog es) {leak : Bool} {R : List AV → AV → Prop} (hq : quietX (ctxQ es) top = true) (k : ∀ args r, R args r → Run (ctxQ es) top rs 12 0 args r ∧ (leak = false → Fr r)) : Fq prog ⟨115, leak, R⟩ := fq_of h mix_ (by kernel_rfl : prog.funcs[115]? = some f115) (by kernel_rfl) comp_ rs_ hq k
theorem fk {es : List Ent} (h : Fks prog es) {leak : Bool} {R : List AV → AV → Prop} (k : ∀ args r, R args r → Run (ctx es) top rs 12 0 args r ∧ (leak = false → Fr r)) : Fk prog ⟨115, leak, R⟩ := fkS (ss := []) h trivial k
end C.trans.IsPermutation
-- semigroup/trans.Valid: semigroup/trans/trans.go .. 22
namespace C.trans.Valid
def l0 : AC := .seq (.reg [⟨some 16, none, .bin .lss (.r 15) (.r 14)⟩] ([0, 13, 14, 15, 16], [])) (.seq (.cond (.r 16) .skip (.exit 0 ([], []))) (.seq (.block 1 (.seq (.reg [⟨some 17, none, .idxA 1 (.r 13) (.r 15)⟩, ⟨some 18, none, .load 1 false (.r 17)⟩, ⟨some 4, none, .mov (.r 18)⟩] ([0, 4, 13, 14, 15], [])) (.seq (.reg [⟨some 19, none, .mov (.r 4)⟩, ⟨some 20, none, .bin .lss (.r 19) (.k (.int .i64 0))⟩, ⟨some 21, none, .mov (.r 20)⟩, ⟨some 22, (some (21, false)), .mov (.r 4)⟩, ⟨some 23, (some (21, false)), .mov (.r 0)⟩, ⟨some 24, (some (21, false)), .len (.r 23)⟩, ⟨some 25, (some (21, false)), .bin .geq (.r 22) (.r 24)⟩, ⟨some 26, none, .pick (.r 21) (.k (.bool true)) (.r 25)⟩] ([0, 13, 14, 15, 26], [])) (.cond (.r 26) (.seq (.reg [⟨some 2, none, .mov (.k (.bool false))⟩] ([2], [])) .ret) .skip)))) (.reg [⟨some 27, none, .bin .add (.r 15) (.k (.int .i64 1))⟩, ⟨some 15, none, .mov (.r 27)⟩] ([0, 13, 14, 15], []))))
abbrev L0 : AC := .loop l0 ([0, 13, 14, 15], [])
def top : AC := .seq (.reg [⟨some 2, none, .mov (.k (.bool false))⟩] ([0], [])) (.seq (.seq (.reg [⟨some 5, none, .mov (.r 0)⟩, ⟨some 6, none, .len (.r 5)⟩, ⟨some 7, none, .bin .lss (.r 6) (.k (.int .i64 1))⟩, ⟨some 8, none, .mov (.r 7)⟩, ⟨some 9, (some (8, false)), .mov (.r 0)⟩, ⟨some 10, (some (8, false)), .len (.r 9)⟩, ⟨some 11, (some (8, false)), .bin .gtr (.r 10) (.k (.int .i64 32))⟩, ⟨some 12, none, .pick (.r 8) (.k (.bool true)) (.r 11)⟩] ([0, 12], [])) (.cond (.r 12) (.seq (.reg [⟨some 2, none, .mov (.k (.bool false))⟩] ([2], [])) .ret) .skip)) (.seq (.seq (.reg [⟨some 13, none, .mov (.r 0)⟩, ⟨some 14, none, .len (.r 13)⟩, ⟨some 15, none, .mov (.k (.int .i64 0))⟩] ([0, 13, 14, 15], [])) (.block 0 (.loop l0 ([0, 13, 14, 15], [])))) (.seq (.reg [⟨some 2, none, .mov (.k (.bool true))⟩] ([2], [])) .ret)))
def anno : Anno := ⟨0, [], [(0, ([0], [])), (1, ([0, 12], [])), (2, ([2], [])), (3, ([0, 13, 14, 15], [])), (4, ([0, 13, 14, 15, 16], [])), (5, ([0, 4, 13, 14, 15], [])), (6, ([0, 13, 14, 15, 26], [])), (7, ([2], [])), (8, ([0, 13, 14, 15], [])), (9, ([2], []))], [(0, ([0, 13, 14, 15], []))], [(0, ([], [])), (1, ([0, 13, 14, 15], []))], []⟩
def rs : List RV := [.tm 2]
theorem comp_ : f116.body.bind (compile prog anno) = some top := by kernel_rfl
theorem rs_ : rvsOf prog f116.results.toList = some rs := by kernel_rfl
theorem fkS {es : List Ent} {ss : List Spe} (h : Fks prog es) (hs : Fsps prog ss) {leak : Bool} {R : List AV → AV → Prop} (k : ∀ args r, R args r → Run (ctx es ss) top rs 28 0 args r ∧ (leak = false → Fr r)) : Fk prog ⟨116, leak, R⟩ := fk_of h hs mix_ (by kernel_rfl : prog.funcs[116]? = some f116) (by kernel_rfl) comp_ rs_ k
theorem fq {es : List Ent} (h : Fqs prog es) {leak : Bool} {R : List AV → AV → Prop} (hq : quietX (ctxQ es) top = true) (k : ∀ args r, R args r → Run (ctxQ es) top rs 28 0 args r ∧ (leak = false → Fr r)) : Fq prog ⟨116, leak, R⟩ := fq_of h mix_ (by kernel_rfl : prog.funcs[116]? = some f116) (by kernel_rfl) comp_ rs_ hq k
theorem fk {es : List Ent} (h : Fks prog es) {leak : Bool} {R : List AV → AV → Prop} (k : ∀ args r, R args r → Run (ctx es) top rs 28 0 args r ∧ (leak = false → Fr r)) : Fk prog ⟨116, leak, R⟩ := fkS (ss := []) h trivial k
end C.trans.Valid
-- semigroup/trans.compose: semigroup/trans/trans.go .. 39
namespace C.trans.compose
def l0 : AC := .seq (.reg [⟨some 14, none, .bin .lss (.r 13) (.r 12)⟩] ([1, 5, 11, 12, 13, 14], [0])) (.seq (.cond (.r 14) .skip (.exit 0 ([5], [0]))) (.seq (.block 1 (.seq (.reg [⟨some 15, none, .mov (.r 13)⟩, ⟨some 16, none, .idxA 1 (.r 11) (.r 13)⟩, ⟨some 17, none, .load 1 false (.r 16)⟩, ⟨some 6, none, .mov (.r 15)⟩, ⟨some 7, none, .mov (.r 17)⟩] ([1, 5, 6, 7, 11, 12, 13], [0])) (.reg [⟨some 18, none, .mov (.r 5)⟩, ⟨some 19, none, .mov (.r 6)⟩, ⟨some 20, none, .mov (.r 1)⟩, ⟨some 21, none, .mov (.r 7)⟩, ⟨some 22, none, .idxA 1 (.r 20) (.r 21)⟩, ⟨some 23, none, .load 1 false (.r 22)⟩, ⟨some 24, none, .idxA 1 (.r 18) (.r 19)⟩, ⟨none, none, .store 1 (.r 24) (.r 23)⟩] ([1, 5, 11, 12, 13], [0])))) (.reg [⟨some 25, none, .bin .add (.r 13) (.k (.int .i64 1))⟩, ⟨some 13, none, .mov (.r 25)⟩] ([1, 5, 11, 12, 13], [0]))))
abbrev L0 : AC := .loop l0 ([1, 5, 11, 12, 13], [0])
def top : AC := .seq (.reg [⟨some 4, none, .nilf true 1⟩] ([0, 1], [])) (.seq (.reg [⟨some 8, none, .mov (.r 0)⟩, ⟨some 9, none, .len (.r 8)⟩, ⟨some 10, none, .mk 0 Tint 1 8 [.int .i64 0] (.r 9) (.r 9)⟩, ⟨some 5, none, .mov (.r 10)⟩] ([0, 1, 5], [0])) (.seq (.seq (.reg [⟨some 11, none, .mov (.r 0)⟩, ⟨some 12, none, .len (.r 11)⟩, ⟨some 13, none, .mov (.k (.int .i64 0))⟩] ([1, 5, 11, 12, 13], [0])) (.block 0 (.loop l0 ([1, 5, 11, 12, 13], [0])))) (.seq (.reg [⟨some 26, none, .mov (.r 5)⟩, ⟨some 4, none, .mov (.r 26)⟩] ([4], [0])) .ret)))
def anno : Anno := ⟨1, [(0, 0, 1000000), (1, 2, 0)], [(0, ([0, 1], [])), (1, ([0, 1, 5], [0])), (2, ([1, 5, 11, 12, 13], [0])), (3, ([1, 5, 11, 12, 13, 14], [0])), (4, ([1, 5, 6, 7, 11, 12, 13], [0])), (5, ([1, 5, 11, 12, 13], [0])), (6, ([1, 5, 11, 12, 13], [0])), (7, ([4], [0]))], [(0, ([1, 5, 11, 12, 13], [0]))], [(0, ([5], [0])), (1, ([1, 5, 11, 12, 13], [0]))], []⟩
def rs : List RV := [.tm 4]
theorem comp_ : f117.body.bind (compile prog anno) = some top := by kernel_rfl
theorem rs_ : rvsOf prog f117.results.toList = some rs := by kernel_rfl
theorem fkS {es : List Ent} {ss : List Spe} (h : Fks prog es) (hs : Fsps prog ss) {leak : Bool} {R : List AV → AV → Prop} (k : ∀ args r, R args r → Run (ctx es ss) top rs 27 1 args r ∧ (leak = false → Fr r)) : Fk prog ⟨117, leak, R⟩ := fk_of h hs mix_ (by kernel_rfl : prog.funcs[117]? = some f117) (by kernel_rfl) comp_ rs_ k
theorem fk {es : List Ent} (h : Fks prog es) {leak : Bool} {R : List AV → AV → Prop} (k : ∀ args r, R args r → Run (ctx es) top rs 27 1 args r ∧ (leak = false → Fr r)) : Fk prog ⟨117, leak, R⟩ := fkS (ss := []) h trivial k
end C.trans.compose
-- semigroup/trans.Rank: semigroup/trans/trans.go .. 65
namespace C.trans.Rank
def top : AC := .seq (.reg [⟨some 2, none, .mov (.k (.int .i64 0))⟩] ([0], [])) (.seq (.reg [⟨some 3, none, .mov (.r 0)⟩, ⟨some 4, none, .call F_trans_Image [(.r 3)]⟩, ⟨some 5, none, .len (.r 4)⟩, ⟨some 2, none, .mov (.r 5)⟩] ([2], [])) .ret)
def anno : Anno := ⟨0, [], [(0, ([0], [])), (1, ([2], []))], [], [], []⟩
def rs : List RV := [.tm 2]
theorem comp_ : f124.body.bind (compile prog anno) = some top := by kernel_rfl
theorem rs_ : rvsOf prog f124.results.toList = some rs := by kernel_rfl
theorem fkS {es : List Ent} {ss : List Spe} (h : Fks prog es) (hs : Fsps prog ss) {leak : Bool} {R : List AV → AV → Prop} (k : ∀ args r, R args r → Run (ctx es ss) top rs 6 0 args r ∧ (leak = false → Fr r)) : Fk prog ⟨124, leak, R⟩ := fk_of h hs mix_ (by kernel_rfl : prog.funcs[124]? = some f124) (by kernel_rfl) comp_ rs_ k
theorem fq {es : List Ent} (h : Fqs prog es) {leak : Bool} {R : List AV → AV → Prop} (hq : quietX (ctxQ es) top = true) (k : ∀ args r, R args r → Run (ctxQ es) top rs 6 0 args r ∧ (leak = false → Fr r)) : Fq prog ⟨124, leak, R⟩ := fq_of h mix_ (by kernel_rfl : prog.funcs[124]? = some f124) (by kernel_rfl) comp_ rs_ hq k
theorem fk {es : List Ent} (h : Fks prog es) {leak : Bool} {R : List AV → AV → Prop} (k : ∀ args r, R args r → Run (ctx es) top rs 6 0 args r ∧ (leak = false → Fr r)) : Fk prog ⟨124, leak, R⟩ := fkS (ss := []) h trivial k
end C.trans.Rank
-- semigroup/trans.Image: semigroup/trans/trans.go .. 83
namespace C.trans.Image
def l0 : AC := .seq (.reg [⟨some 18, none, .bin .lss (.r 17) (.r 16)⟩] ([3, 15, 16, 17, 18], [0])) (.seq (.cond (.r 18) .skip (.exit 0 ([3], [0]))) (.seq (.block 1 (.seq (.reg [⟨some 19, none, .idxA 1 (.r 15) (.r 17)⟩, ⟨some 20, none, .load 1 false (.r 19)⟩, ⟨some 5, none, .mov (.r 20)⟩] ([3, 5, 15, 16, 17], [0])) (.reg [⟨some 21, none, .mov (.r 3)⟩, ⟨some 22, none, .mov (.r 5)⟩, ⟨some 23, none, .idxA 1 (.r 21) (.r 22)⟩, ⟨none, none, .store 1 (.r 23) (.k (.bool true))⟩] ([3, 15, 16, 17], [0])))) (.reg [⟨some 24, none, .bin .add (.r 17) (.k (.int .i64 1))⟩, ⟨some 17, none, .mov (.r 24)⟩] ([3, 15, 16, 17], [0]))))
abbrev L0 : AC := .loop l0 ([3, 15, 16, 17], [0])
def l2 : AC := .seq (.reg [⟨some 28, none, .bin .lss (.r 27) (.r 26)⟩] ([6, 25, 26, 27, 28], [0, 1])) (.seq (.cond (.r 28) .skip (.exit 2 ([6], [1]))) (.seq (.block 3 (.seq (.reg [⟨some 29, none, .mov (.r 27)⟩, ⟨some 30, none, .idxA 1 (.r 25) (.r 27)⟩, ⟨some 31, none, .load 1 false (.r 30)⟩, ⟨some 7, none, .mov (.r 29)⟩, ⟨some 8, none, .mov (.r 31)⟩] ([6, 7, 8, 25, 26, 27], [0, 1])) (.seq (.reg [⟨some 32, none, .mov (.r 8)⟩] ([6, 7, 25, 26, 27, 32], [0, 1])) (.cond (.r 32) (.reg [⟨some 33, none, .mov (.r 6)⟩, ⟨some 34, none, .mov (.r 7)⟩, ⟨some 35, none, .sl 2 Tint 1 1 [.int .i64 0] [(0, (.r 34))]⟩, ⟨some 36, none, .app 1000000 Tint 1 8 (.r 33) (.r 35)⟩, ⟨some 6, none, .mov (.r 36)⟩] ([6, 25, 26, 27], [0, 1])) .skip)))) (.reg [⟨some 37, none, .bin .add (.r 27) (.k (.int .i64 1))⟩, ⟨some 27, none, .mov (.r 37)⟩] ([6, 25, 26, 27], [0, 1]))))
abbrev L2 : AC := .loop l2 ([6, 25, 26, 27], [0, 1])
def top : AC := .seq (.reg [⟨some 2, none, .nilf true 1⟩] ([0], [])) (.seq (.seq (.reg [⟨some 9, none, .mov (.r 0)⟩, ⟨some 10, none, .call F_trans_Valid [(.r 9)]⟩, ⟨some 11, none, .un .not (.r 10)⟩] ([0, 11], [])) (.cond (.r 11) (.seq (.reg [⟨some 2, none, .nilf true 1⟩] ([2], [1])) .ret) .skip)) (.seq (.reg [⟨some 12, none, .mov (.r 0)⟩, ⟨some 13, none, .len (.r 12)⟩, ⟨some 14, none, .mk 0 Tbool 1 1 [.bool false] (.r 13) (.r 13)⟩, ⟨some 3, none, .mov (.r 14)⟩] ([0, 3], [0])) (.seq (.seq (.reg [⟨some 15, none, .mov (.r 0)⟩, ⟨some 16, none, .len (.r 15)⟩, ⟨some 17, none, .mov (.k (.int .i64 0))⟩] ([3, 15, 16, 17], [0])) (.block 0 (.loop l0 ([3, 15, 16, 17], [0])))) (.seq (.reg [⟨some 6, none, .nilr 1 Tint 1⟩] ([3, 6], [0, 1])) (.seq (.seq (.reg [⟨some 25, none, .mov (.r 3)⟩, ⟨some 26, none, .len (.r 25)⟩, ⟨some 27, none, .mov (.k (.int .i64 0))⟩] ([6, 25, 26, 27], [0, 1])) (.block 2 (.loop l2 ([6, 25, 26, 27], [0, 1])))) (.seq (.reg [⟨some 38, none, .mov (.r 6)⟩, ⟨some 2, none, .mov (.r 38)⟩] ([2], [1])) .ret))))))
def anno : Anno := ⟨3, [(0, 0, 1000000), (2, 0, 1000000), (3, 2, 0), (9, 0, 1), (14, 2, 2)], [(0, ([0], [])), (1, ([0, 11], [])), (2, ([2], [1])), (3, ([0, 3], [0])), (4, ([3, 15, 16, 17], [0])), (5, ([3, 15, 16, 17, 18], [0])), (6, ([3, 5, 15, 16, 17], [0])), (7, ([3, 15, 16, 17], [0])), (8, ([3, 15, 16, 17], [0])), (9, ([3, 6], [0, 1])), (10, ([6, 25, 26, 27], [0, 1])), (11, ([6, 25, 26, 27, 28], [0, 1])), (12, ([6, 7, 8, 25, 26, 27], [0, 1])), (13, ([6, 7, 25, 26, 27, 32], [0, 1])), (14, ([6, 25, 26, 27], [0, 1])), (15, ([6, 25, 26, 27], [0, 1])), (16, ([2], [1]))], [(0, ([3, 15, 16, 17], [0])), (2, ([6, 25, 26, 27], [0, 1]))], [(0, ([3], [0])), (1, ([3, 15, 16, 17], [0])), (2, ([6], [1])), (3, ([6, 25, 26, 27], [0, 1]))], []⟩
def rs : List RV := [.tm 2]
theorem comp_ : f135.body.bind (compile prog anno) = some top := by kernel_rfl
theorem rs_ : rvsOf prog f135.results.toList = some rs := by kernel_rfl
theorem fkS {es : List Ent} {ss : List Spe} (h : Fks prog es) (hs : Fsps prog ss) {leak : Bool} {R : List AV → AV → Prop} (k : ∀ args r, R args r → Run (ctx es ss) top rs 39 3 args r ∧ (leak = false → Fr r)) : Fk prog ⟨135, leak, R⟩ := fk_of h hs mix_ (by kernel_rfl : prog.funcs[135]? = some f135) (by kernel_rfl) comp_ rs_ k
theorem fk {es : List Ent} (h : Fks prog es) {leak : Bool} {R : List AV → AV → Prop} (k : ∀ args r, R args r → Run (ctx es) top rs 39 3 args r ∧ (leak = false → Fr r)) : Fk prog ⟨135, leak, R⟩ := fkS (ss := []) h trivial k
end C.trans.Image
end Go.Proofs.YtbpajecjaoefaaaGreat.V

/- Arguments of a statement, opened as the machine's values. -/
namespace Go.Proofs.YtbpajecjaoefaaaGreat.V
open Go Go.RowKit Go.ChangeShapes Go.WideShapes Go.Deep

theorem spot_none {w : World} {a : Addr} {v : Value} (h : w.cell? (a.add 0) = some v) : a.spot = none := by
  unfold Addr.add at h
  rw [if_pos rfl] at h
  unfold World.cell? at h
  split at h
  · split at h
    · cases h
    · rename_i e; simpa using e
  · cases h
theorem addr_eq {a : Addr} (h : a.spot = none) (n : Nat) : a.add n = ⟨a.block, a.off + n, none⟩ := by
  obtain ⟨b, o, s⟩ := a
  simp only at h; subst h
  exact add_at b o n
theorem flat_c1' {β : Type} {f1 : β → AV} : ∀ l : List β, l.flatMap (c1 f1) = l.map f1
  | [] => rfl
  | x :: l => by simp only [List.flatMap_cons, List.map_cons, flat_c1' l]; rfl
theorem Cs_of_ints' {X : Claims} {s0 : Nat} {H : Heads} : ∀ (l : List Int), Cs X s0 H (l.flatMap (c1 (eN .i64))) (l.map (Value.int .i64))
  | [] => Cs.nil
  | z :: l => Cs.cons (x := eN .i64 z) (v := .int .i64 z) (.lit _) (Cs_of_ints' l)
theorem LI_of {w : World} {s0 : Nat} {A : Option Addr} {L c : Nat} {l : List Int} (hl : l.length = L) (hc : L ≤ c) (h : 0 < L → ∃ a, A = some a ∧ ∀ i, i < L → w.cell? (a.add i) = some (.int .i64 (l.getD i 0))) : C (allX w) s0 H0 (LI false l) (.slice A L c) := by
  subst hl
  rcases Nat.eq_zero_or_pos l.length with h0 | h0
  · have : l = [] := List.eq_nil_of_length_eq_zero h0
    subst this; exact .frz0
  · obtain ⟨a, rfl, ha⟩ := h h0
    have hs := spot_none (ha 0 h0)
    have hcs := Cs_of_ints' (X := allX w) (s0 := s0) (H := H0) l
    obtain ⟨b, o, s⟩ := a
    simp only at hs; subst hs
    refine .frz (vs := l.map (Value.int .i64)) (fun e => by cases e) h0 (by rw [flat_len (k := 1) (fun _ => rfl)]) hc (by rw [flat_len (k := 1) (fun _ => rfl)]; simp) (fun j v hj => ?_) fun j x v hx hv => hcs.at_ j x v hx hv
    rw [List.getElem?_map] at hj
    cases e : l[j]? with
    | none => rw [e] at hj; cases hj
    | some z =>
      rw [e] at hj; injection hj with hj; subst hj
      have hlt := (List.getElem?_eq_some_iff.1 e).1
      show w.cell? ⟨b, o + j, none⟩ = _
      rw [← add_at, ha j hlt, List.getD_eq_getElem?_getD, e]; rfl
theorem opened_LI {H : Type} {enc : TypeId × Value → H} {P : Program} {w : World} {base s0 : Nat} {held : Bool} {t e : TypeId} {a : Option Addr} {len cap : Nat} {d : DataW H} {ps : List MemPlace} (ht : P.underlying t = some (.slice e)) (he : P.underlying e = some (.int .i64)) (hc : P.cellsOf e = 1)
    (h : DataW.Trod enc P w base (fun _ => true) held t (.slice a len cap) d ps) : ∃ l : List Int, C (allX w) s0 H0 (LI false l) (.slice a len cap) ∧ (d = .nil ∧ l = [] ∨ ∃ rest, d = .slice (lits .i64 l) rest) ∧ ∀ x ∈ l, -9223372036854775808 ≤ x ∧ x ≤ 9223372036854775807 := by
  obtain ⟨fuel, hf⟩ := h
  rcases open_ints ht he hc hf with ⟨hcs, hx⟩ | ⟨x, l, c, zs, hcs, _, hl, hm, hz, hx, hcell, hwf⟩
  · simp [Value.cells] at hcs
    obtain ⟨rfl, rfl, rfl⟩ := hcs
    simp only [Prod.mk.injEq] at hx
    exact ⟨[], .frz0, .inl ⟨hx.1, rfl⟩, fun x hx => by cases hx⟩
  · simp [Value.cells] at hcs
    obtain ⟨rfl, rfl, rfl⟩ := hcs
    simp only [if_true] at hz
    simp only [Prod.mk.injEq] at hx
    refine ⟨zs.take len, LI_of (by simp; omega) hl fun h0 => ⟨x, rfl, fun i hi => ?_⟩, .inr ⟨_, hx.1⟩, fun z hz => ?_⟩
    · rw [hcell i (by omega), List.getD_eq_getElem?_getD, List.getD_eq_getElem?_getD, List.getElem?_take_of_lt hi]
    · have := hwf z (List.mem_of_mem_take hz)
      have e1 : IntKind.i64.min = -9223372036854775808 := rfl
      have e2 : IntKind.i64.max = 9223372036854775807 := rfl
      simp [Lit.wf, e1, e2] at this
      omega
theorem opened_LLI {H : Type} {enc : TypeId × Value → H} {P : Program} {w : World} {base s0 : Nat} {held : Bool} {t e q : TypeId} {a : Option Addr} {len cap : Nat} {d : DataW H} {ps : List MemPlace} (ht : P.underlying t = some (.slice e)) (he : P.underlying e = some (.slice q)) (hq : P.underlying q = some (.int .i64)) (ce : P.cellsOf e = 1) (cq : P.cellsOf q = 1)
    (h : DataW.Trod enc P w base (fun _ => true) held t (.slice a len cap) d ps) : ∃ l : List (List Int), C (allX w) s0 H0 (LLI false false l) (.slice a len cap) ∧ (d = .nil ∧ l = [] ∨ ∃ (A : Nat → Option Addr) (L : Nat → Nat) (Z : Nat → List Int) (rest : List (DataW H)), d = .slice ((List.range len).map fun r => intRow .i64 (A r) (L r) (Z r)) rest ∧ l.length = len ∧ ∀ (r : Nat) (x : List Int), l[r]? = some x → x.length = L r ∧ (A r = none → L r = 0) ∧ L r ≤ (Z r).length) := by
  obtain ⟨fuel, hf⟩ := h
  rcases open_int_rows ht he hq ce cq hf with ⟨hcs, hx⟩ | ⟨x, l, c, A, L, Cp, Z, hcs, _, hl, hm, hx, hrow⟩
  · simp [Value.cells] at hcs
    obtain ⟨rfl, rfl, rfl⟩ := hcs
    simp only [Prod.mk.injEq] at hx
    exact ⟨[], .frz0, .inl ⟨hx.1, rfl⟩⟩
  · simp [Value.cells] at hcs
    obtain ⟨rfl, rfl, rfl⟩ := hcs
    simp only [Prod.mk.injEq] at hx
    have hlen : ((List.range len).map fun r => (Z r).take (L r)).length = len := by simp
    refine ⟨(List.range len).map fun r => (Z r).take (L r), ?_, .inr ⟨A, L, Z, _, hx.1, hlen, fun r y hy => ?_⟩⟩
    · rcases Nat.eq_zero_or_pos len with h0 | h0
      · subst h0; exact .frz0
      · have hs := spot_none ((hrow 0 (by omega)).1)
        obtain ⟨b, o, s⟩ := x
        simp only at hs; subst hs
        have key : C (allX w) s0 H0 (LLI false false ((List.range len).map fun r => (Z r).take (L r))) (.slice (some ⟨b, o, none⟩) ((List.range len).map fun r => (Z r).take (L r)).length cap) := by
          refine .frz (vs := (List.range len).map fun r => .slice (A r) (L r) (Cp r)) (fun e => by cases e) (by rw [hlen]; exact h0) (by rw [flat_len (k := 1) (fun _ => rfl)]) (by rw [hlen]; exact hl) (by rw [flat_len (k := 1) (fun _ => rfl)]; simp) (fun j v hj => ?_) fun j y v hy hv => ?_
          · rw [List.getElem?_map] at hj
            by_cases hjl : j < len
            · rw [List.getElem?_range hjl] at hj
              simp only [Option.map_some, Option.some.injEq] at hj; subst hj
              show w.cell? ⟨b, o + j, none⟩ = _
              rw [← add_at]; exact (hrow j (by omega)).1
            · rw [List.getElem?_eq_none (by simp; omega)] at hj; cases hj
          · rw [List.getElem?_map] at hv
            by_cases hjl : j < len
            · rw [List.getElem?_range hjl] at hv
              simp only [Option.map_some, Option.some.injEq] at hv; subst hv
              rw [flat_c1', List.getElem?_map, List.getElem?_map, List.getElem?_range hjl] at hy
              simp only [Option.map_some, Option.some.injEq] at hy; subst hy
              obtain ⟨_, r1, r2, r3, _, r5, r6⟩ := hrow j (by omega)
              refine LI_of (by simp; omega) r1 fun hL => ?_
              cases hA : A j with
              | none => have := r5 hA; omega
              | some a' =>
                refine ⟨a', rfl, fun i hi => ?_⟩
                rw [(r6 a' hA).2 i (by omega), List.getD_eq_getElem?_getD, List.getD_eq_getElem?_getD, List.getElem?_take_of_lt hi]
            · rw [List.getElem?_eq_none (by simp; omega)] at hv; cases hv
        rwa [hlen] at key
    · have hr : r < len := by have := (List.getElem?_eq_some_iff.1 hy).1; rwa [hlen] at this
      rw [List.getElem?_map, List.getElem?_range hr] at hy
      simp only [Option.map_some, Option.some.injEq] at hy; subst hy
      obtain ⟨_, r1, r2, r3, _, r5, r6⟩ := hrow r (by omega)
      exact ⟨by simp; omega, fun hA => by have := r5 hA; omega, by omega⟩
theorem weightsAll_mem {H : Type} {P : Program} {e : TypeId} {n : Nat} : ∀ {ds : List (DataW H)}, n ∈ DataW.weightsAll P e ds ↔ ∃ d ∈ ds, n ∈ d.weights P e
  | [] => by simp [DataW.weightsAll]
  | d :: ds => by simp [DataW.weightsAll, weightsAll_mem (ds := ds)]
theorem inner_len {H : Type} {P : Program} {ts : List TypeId} {ds : List (DataW H)} (hsz : (DataW.weightsEach P ts ds).all (· ≤ reachBytes) = true) {j : Nat} {t e q : TypeId} {len r : Nat} {A : Nat → Option Addr} {L : Nat → Nat} {Z : Nat → List Int} {rest : List (DataW H)} (ht : ts[j]? = some t)
    (hd : ds[j]? = some (.slice ((List.range len).map fun r => intRow .i64 (A r) (L r) (Z r)) rest)) (hu : P.underlying t = some (.slice e)) (hu' : P.underlying e = some (.slice q)) (hb : P.bytesOf q = 8) (hr : r < len) {x : List Int} (h1 : x.length = L r) (h2 : A r = none → L r = 0) (h3 : L r ≤ (Z r).length) : x.length < 70368744177664 := by
  cases hA : A r with
  | none => rw [h1, h2 hA]; decide
  | some a =>
    have hmem : ∀ n ∈ (intRow .i64 (A r) (L r) (Z r) : DataW H).weights P e, n ∈ DataW.weightsEach P ts ds := by
      intro n hn
      refine DataW.weights_mem_each ht hd n ?_
      simp only [DataW.weights, hu, List.mem_cons, List.mem_append]
      refine .inr (.inl ?_)
      rw [weightsAll_mem]
      exact ⟨_, List.mem_map.2 ⟨r, List.mem_range.2 hr, rfl⟩, hn⟩
    have := List.all_eq_true.1 hsz _ (hmem ((L r + ((Z r).length - L r)) * 8) (by
      rw [hA]
      simp only [intRow, DataW.weights, hu', hb, List.mem_cons]
      left; simp [lits]; omega))
    have r := reachBytes_lt
    simp only [decide_eq_true_eq] at this
    omega
end Go.Proofs.YtbpajecjaoefaaaGreat.V

/- Functions that look alone: lists of numbers. -/




namespace Go.Proofs.YtbpajecjaoefaaaGreat.V

open Go Go.RowKit Go.Proofs.Tryz

theorem ff {p : Prop} (h : false = true) : p := nomatch h
theorem all_take {α : Type} {P : α → Prop} {l : List α} {i : Nat} {x : α} (h : ∀ y ∈ l.take i, P y) (hi : i < l.length) (hx : l[i] = x) (hp : P x) : ∀ y ∈ l.take (i + 1), P y := by
  intro y hy
  rw [List.take_add_one, List.getElem?_eq_getElem hi, hx] at hy
  simp only [Option.toList_some, List.mem_append, List.mem_singleton] at hy
  rcases hy with hy | rfl
  · exact h y hy
  · exact hp
theorem take_all {α : Type} {P : α → Prop} {l : List α} {i : Nat} (h : ∀ y ∈ l.take i, P y) (hi : i = l.length) : ∀ y ∈ l, P y := by
  rwa [List.take_of_length_le (by omega)] at h

-- ref03.Same

theorem Same_l0 {Γ : Ctx} (a b : List Int) (hab : a.length = b.length) (hl : a.length < 2 ^ 62) {Q : Exit → St → Prop} (hn : ∀ g, ¬ a = b → Q .ret (mk 26 [(4, eB false)] [] g)) (hy : ∀ g, a = b → Q (.exit 0) (mk 26 [] [] g)) :
    ∀ (m i g : Nat), i + m = a.length → a.take i = b.take i → W Γ C.ref03.Same.L0 (mk 26 [(0, LI false a), (1, LI false b), (12, eN .i64 a.length), (13, eN .i64 i)] [] g) Q := by
  intro m
  induction m with
  | zero =>
    intro i g hi ht
    refine W.go C.ref03.Same.l0.eq_1 ?_
    simp only [↓cnd_t, ↓cnd_f, ↓cnf_t, ↓cnf_f, VS, astep, Nat.reduceEqDiff, Nat.reduceAdd, Nat.reduceMul, Nat.reduceLT, Nat.reduceLeDiff, Nat.reduceBEq, Int.reduceLT, reduceCtorEq]
    refine ⟨fun h => by omega, fun _ => hy _ ?_⟩
    rwa [List.take_of_length_le (by omega), List.take_of_length_le (by omega)] at ht
  | succ m ih =>
    intro i g hi ht
    refine W.go C.ref03.Same.l0.eq_1 ?_
    simp only [↓cnd_t, ↓cnd_f, ↓cnf_t, ↓cnf_f, VS, astep, Nat.reduceEqDiff, Nat.reduceAdd, Nat.reduceMul, Nat.reduceLT, Nat.reduceLeDiff, Nat.reduceBEq, Int.reduceLT, reduceCtorEq]
    refine ⟨fun h => ⟨by omega, by omega, fun hne => hn _ ?_, fun he => ?_⟩, fun h => by omega⟩
    · rintro rfl; exact hne rfl
    · rw [wr_in (by omega) (by omega)]
      refine ih (i + 1) _ (by omega) ?_
      rw [gt_nat (by omega), gt_nat (by omega)] at he
      rw [List.take_add_one, List.take_add_one, ht, List.getElem?_eq_getElem (by omega), List.getElem?_eq_getElem (by omega), he]
def R_Same (args : List AV) (r : AV) : Prop := ∃ a b : List Int, a.length < 2 ^ 62 ∧ args = [LI false a, LI false b] ∧ r = eB (decide (a = b))
theorem fk_Same : Fk prog ⟨F_ref03_Same, false, R_Same⟩ := C.ref03.Same.fk (es := []) trivial <| by
  rintro _ _ ⟨a, b, hl, rfl, rfl⟩
  refine ⟨Run.of C.ref03.Same.top.eq_1 (by simp) ?_, fun _ => .lit _⟩
  simp only [↓cnd_t, ↓cnd_f, ↓cnf_t, ↓cnf_f, VS, astep, Nat.reduceEqDiff, Nat.reduceAdd, Nat.reduceMul, Nat.reduceLT, Nat.reduceLeDiff, Nat.reduceBEq, Int.reduceLT, reduceCtorEq, enum, C.ref03.Same.rs]
  refine ⟨fun h => ends_1 (by decide) ?_, fun h => ?_⟩
  · have : ¬ a = b := by rintro rfl; exact h rfl
    simp only [this, decide_false]; exact .lit _
  · refine Same_l0 a b (by omega) hl ?_ ?_ a.length 0 _ (by omega) rfl
    · intro g h
      simp only [↓cnd_t, ↓cnd_f, ↓cnf_t, ↓cnf_f, VS, astep, Nat.reduceEqDiff, Nat.reduceAdd, Nat.reduceMul, Nat.reduceLT, Nat.reduceLeDiff, Nat.reduceBEq, Int.reduceLT, reduceCtorEq]
      refine ends_1 (by decide) ?_
      simp only [h, decide_false]; exact .lit _
    · intro g h
      simp only [↓cnd_t, ↓cnd_f, ↓cnf_t, ↓cnf_f, VS, astep, Nat.reduceEqDiff, Nat.reduceAdd, Nat.reduceMul, Nat.reduceLT, Nat.reduceLeDiff, Nat.reduceBEq, Int.reduceLT, reduceCtorEq]
      refine ends_1 (by decide) ?_
      simp only [h, decide_true]; exact .lit _

-- ref03.SameRows

theorem SameRows_l0 {Γ : Ctx} (hΓ : Γ F_ref03_Same = some (false, R_Same)) (a b : List (List Int)) (hab : a.length = b.length) (hl : a.length < 2 ^ 62) (hl' : ∀ r ∈ a, r.length < 2 ^ 62) {Q : Exit → St → Prop} (hn : ∀ g, ¬ a = b → Q .ret (mk 27 [(4, eB false)] [] g)) (hy : ∀ g, a = b → Q (.exit 0) (mk 27 [] [] g)) :
    ∀ (m i g : Nat), i + m = a.length → a.take i = b.take i → W Γ C.ref03.SameRows.L0 (mk 27 [(0, LLI false false a), (1, LLI false false b), (12, eN .i64 a.length), (13, eN .i64 i)] [] g) Q := by
  intro m
  induction m with
  | zero =>
    intro i g hi ht
    refine W.go C.ref03.SameRows.l0.eq_1 ?_
    simp only [↓cnd_t, ↓cnd_f, ↓cnf_t, ↓cnf_f, VS, astep, Nat.reduceEqDiff, Nat.reduceAdd, Nat.reduceMul, Nat.reduceLT, Nat.reduceLeDiff, Nat.reduceBEq, Int.reduceLT, reduceCtorEq]
    refine ⟨fun h => by omega, fun _ => hy _ ?_⟩
    rwa [List.take_of_length_le (by omega), List.take_of_length_le (by omega)] at ht
  | succ m ih =>
    intro i g hi ht
    refine W.go C.ref03.SameRows.l0.eq_1 ?_
    simp only [↓cnd_t, ↓cnd_f, ↓cnf_t, ↓cnf_f, VS, astep, Nat.reduceEqDiff, Nat.reduceAdd, Nat.reduceMul, Nat.reduceLT, Nat.reduceLeDiff, Nat.reduceBEq, Int.reduceLT, reduceCtorEq]
    refine ⟨fun h => ⟨by omega, by omega, ?_⟩, fun h => by omega⟩
    refine YCD.of hΓ [LI false (gt a i), LI false (gt b i)] (eB (decide (gt a i = gt b i))) ⟨_, _, ?_, rfl, rfl⟩ (.cons (cv_LI ff) (.cons (cv_LI ff) .nil)) ?_
    · rw [gt_nat (by omega)]; exact hl' _ (List.getElem_mem _)
    · simp only [↓cnd_t, ↓cnd_f, ↓cnf_t, ↓cnf_f, VS, astep, Nat.reduceEqDiff, Nat.reduceAdd, Nat.reduceMul, Nat.reduceLT, Nat.reduceLeDiff, Nat.reduceBEq, Int.reduceLT, reduceCtorEq]
      refine ⟨fun hne => hn _ ?_, fun he => ?_⟩
      · rintro rfl; exact hne rfl
      · rw [wr_in (by omega) (by omega)]
        refine ih (i + 1) _ (by omega) ?_
        rw [gt_nat (by omega), gt_nat (by omega)] at he
        rw [List.take_add_one, List.take_add_one, ht, List.getElem?_eq_getElem (by omega), List.getElem?_eq_getElem (by omega), he]
def R_SameRows (args : List AV) (r : AV) : Prop := ∃ a b : List (List Int), a.length < 2 ^ 62 ∧ (∀ r ∈ a, r.length < 2 ^ 62) ∧ args = [LLI false false a, LLI false false b] ∧ r = eB (decide (a = b))
theorem fk_SameRows : Fk prog ⟨F_ref03_SameRows, false, R_SameRows⟩ := C.ref03.SameRows.fk (es := [⟨F_ref03_Same, false, R_Same⟩]) ⟨fk_Same, trivial⟩ <| by
  rintro _ _ ⟨a, b, hl, hl', rfl, rfl⟩
  refine ⟨Run.of C.ref03.SameRows.top.eq_1 (by simp) ?_, fun _ => .lit _⟩
  simp only [↓cnd_t, ↓cnd_f, ↓cnf_t, ↓cnf_f, VS, astep, Nat.reduceEqDiff, Nat.reduceAdd, Nat.reduceMul, Nat.reduceLT, Nat.reduceLeDiff, Nat.reduceBEq, Int.reduceLT, reduceCtorEq, enum, C.ref03.SameRows.rs]
  refine ⟨fun h => ends_1 (by decide) ?_, fun h => ?_⟩
  · have : ¬ a = b := by rintro rfl; exact h rfl
    simp only [this, decide_false]; exact .lit _
  · refine SameRows_l0 rfl a b (by omega) hl hl' ?_ ?_ a.length 0 _ (by omega) rfl
    · intro g h
      simp only [↓cnd_t, ↓cnd_f, ↓cnf_t, ↓cnf_f, VS, astep, Nat.reduceEqDiff, Nat.reduceAdd, Nat.reduceMul, Nat.reduceLT, Nat.reduceLeDiff, Nat.reduceBEq, Int.reduceLT, reduceCtorEq]
      refine ends_1 (by decide) ?_
      simp only [h, decide_false]; exact .lit _
    · intro g h
      simp only [↓cnd_t, ↓cnd_f, ↓cnf_t, ↓cnf_f, VS, astep, Nat.reduceEqDiff, Nat.reduceAdd, Nat.reduceMul, Nat.reduceLT, Nat.reduceLeDiff, Nat.reduceBEq, Int.reduceLT, reduceCtorEq]
      refine ends_1 (by decide) ?_
      simp only [h, decide_true]; exact .lit _

-- ref11.Valid, trans.Valid

def vt (f : List Int) : Bool := decide (1 ≤ f.length ∧ f.length ≤ 32) && f.all fun x => decide (0 ≤ x ∧ x < f.length)
def R_Valid (args : List AV) (r : AV) : Prop := ∃ f : List Int, f.length < 2 ^ 62 ∧ args = [LI false f] ∧ r = eB (vt f)
theorem trans.Valid_l0 {Γ : Ctx} (f : List Int) (hl : f.length ≤ 32) {Q : Exit → St → Prop} (hn : ∀ g, ¬ (∀ x ∈ f, 0 ≤ x ∧ x < f.length) → Q .ret (mk 28 [(2, eB false)] [] g)) (hy : ∀ g, (∀ x ∈ f, 0 ≤ x ∧ x < f.length) → Q (.exit 0) (mk 28 [] [] g)) :
    ∀ (m i g : Nat), i + m = f.length → (∀ x ∈ f.take i, 0 ≤ x ∧ x < f.length) → W Γ C.trans.Valid.L0 (mk 28 [(0, LI false f), (13, LI false f), (14, eN .i64 f.length), (15, eN .i64 i)] [] g) Q := by
  intro m
  induction m with
  | zero =>
    intro i g hi ht
    refine W.go C.trans.Valid.l0.eq_1 ?_
    simp only [↓cnd_t, ↓cnd_f, ↓cnf_t, ↓cnf_f, VS, astep, Nat.reduceEqDiff, Nat.reduceAdd, Nat.reduceMul, Nat.reduceLT, Nat.reduceLeDiff, Nat.reduceBEq, Int.reduceLT, reduceCtorEq]
    exact ⟨fun h => by omega, fun _ => hy _ (take_all ht hi)⟩
  | succ m ih =>
    intro i g hi ht
    refine W.go C.trans.Valid.l0.eq_1 ?_
    simp only [↓cnd_t, ↓cnd_f, ↓cnf_t, ↓cnf_f, VS, astep, Nat.reduceEqDiff, Nat.reduceAdd, Nat.reduceMul, Nat.reduceLT, Nat.reduceLeDiff, Nat.reduceBEq, Int.reduceLT, reduceCtorEq]
    have hg : gt f i = f[i] := gt_nat (by omega)
    have hm : f[i] ∈ f := List.getElem_mem _
    refine ⟨fun h => ⟨by omega, fun h1 => ⟨fun h2 => hn _ fun hx => by have := hx _ hm; rw [hg] at h2; omega, fun h2 => ?_⟩, fun h1 => hn _ fun hx => by have := hx _ hm; rw [hg] at h1; omega⟩, fun h => by omega⟩
    rw [wr_in (by omega) (by omega)]
    exact ih (i + 1) _ (by omega) (all_take ht (by omega) hg.symm (by omega))
theorem run_trans.Valid {Γ : Ctx} (f : List Int) (hl : f.length < 2 ^ 62) : Run Γ C.trans.Valid.top C.trans.Valid.rs 28 0 [LI false f] (eB (vt f)) := by
  refine Run.of C.trans.Valid.top.eq_1 (by simp) ?_
  simp only [↓cnd_t, ↓cnd_f, ↓cnf_t, ↓cnf_f, VS, astep, Nat.reduceEqDiff, Nat.reduceAdd, Nat.reduceMul, Nat.reduceLT, Nat.reduceLeDiff, Nat.reduceBEq, Int.reduceLT, reduceCtorEq, enum, C.trans.Valid.rs]
  refine ⟨fun h => ⟨fun h2 => ends_b (by decide) rfl ?_, fun h2 => ?_⟩, fun h => ends_b (by decide) rfl ?_⟩
  · simp only [vt]; rw [decide_eq_false (by omega)]; rfl
  · refine trans.Valid_l0 f (by omega) ?_ ?_ f.length 0 _ (by omega) (by simp)
    · intro g hn
      simp only [↓cnd_t, ↓cnd_f, ↓cnf_t, ↓cnf_f, VS, astep, Nat.reduceEqDiff, Nat.reduceAdd, Nat.reduceMul, Nat.reduceLT, Nat.reduceLeDiff, Nat.reduceBEq, Int.reduceLT, reduceCtorEq]
      refine ends_b (by decide) rfl ?_
      simp only [vt]; rw [decide_eq_true (by omega), Bool.true_and]; symm
      simpa using hn
    · intro g hy
      simp only [↓cnd_t, ↓cnd_f, ↓cnf_t, ↓cnf_f, VS, astep, Nat.reduceEqDiff, Nat.reduceAdd, Nat.reduceMul, Nat.reduceLT, Nat.reduceLeDiff, Nat.reduceBEq, Int.reduceLT, reduceCtorEq]
      refine ends_b (by decide) rfl ?_
      simp only [vt]; rw [decide_eq_true (by omega), Bool.true_and]; symm
      simpa using hy
  · simp only [vt]; rw [decide_eq_false (by omega)]; rfl
theorem fk_tValid : Fk prog ⟨F_trans_Valid, false, R_Valid⟩ := C.trans.Valid.fk (es := []) trivial <| by
  rintro _ _ ⟨f, hl, rfl, rfl⟩
  exact ⟨run_trans.Valid f hl, fun _ => .lit _⟩
end Go.Proofs.YtbpajecjaoefaaaGreat.V

/- Functions that look alone: tables. -/




namespace Go.Proofs.YtbpajecjaoefaaaGreat.V

open Go Go.RowKit Go.Proofs.Tryz

/-- A table: square, of numbers of its rows. -/
def inr (n : Nat) (row : List Int) : Prop := ∀ x ∈ row, 0 ≤ x ∧ x < n
def sq (t : List (List Int)) : Prop := ∀ row ∈ t, row.length = t.length ∧ inr t.length row
instance (n : Nat) (row : List Int) : Decidable (inr n row) := by unfold inr; exact inferInstance
instance (t : List (List Int)) : Decidable (sq t) := by unfold sq; exact inferInstance
def shp (t : List (List Int)) : Int := if 400 < t.length then 3 else if t.length = 0 then 4 else if sq t then 0 else 4

theorem mult.shape_in {Γ : Ctx} (t : List (List Int)) (row : List Int) (I N : Int) (hl : t.length ≤ 400) (hr : row.length = t.length) {Q : Exit → St → Prop} (hn : ∀ g, ¬ inr t.length row → Q .ret (mk 42 [(2, eN .i64 4)] [] g))
    (hy : ∀ g, inr t.length row → Q (.exit 3) (mk 42 [(0, LLI false false t), (15, LLI false false t), (16, eN .i64 N), (17, eN .i64 I)] [] g)) :
    ∀ (m i g : Nat), i + m = row.length → (∀ x ∈ row.take i, 0 ≤ x ∧ x < t.length) → W Γ C.mult.shape.L3 (mk 42 [(0, LLI false false t), (15, LLI false false t), (16, eN .i64 N), (17, eN .i64 I), (26, LI false row), (27, eN .i64 row.length), (28, eN .i64 i)] [] g) Q := by
  intro m
  induction m with
  | zero =>
    intro i g hi ht
    refine W.go C.mult.shape.l3.eq_1 ?_
    simp only [↓cnd_t, ↓cnd_f, ↓cnf_t, ↓cnf_f, VS, astep, Nat.reduceEqDiff, Nat.reduceAdd, Nat.reduceMul, Nat.reduceLT, Nat.reduceLeDiff, Nat.reduceBEq, Int.reduceLT, reduceCtorEq]
    exact ⟨fun h => by omega, fun _ => hy _ (take_all ht hi)⟩
  | succ m ih =>
    intro i g hi ht
    refine W.go C.mult.shape.l3.eq_1 ?_
    simp only [↓cnd_t, ↓cnd_f, ↓cnf_t, ↓cnf_f, VS, astep, Nat.reduceEqDiff, Nat.reduceAdd, Nat.reduceMul, Nat.reduceLT, Nat.reduceLeDiff, Nat.reduceBEq, Int.reduceLT, reduceCtorEq]
    have hg : gt row i = row[i] := gt_nat (by omega)
    have hm : row[i] ∈ row := List.getElem_mem _
    refine ⟨fun h => ⟨by omega, fun h1 => ⟨fun h2 => hn _ fun hx => by have := hx _ hm; rw [hg] at h2; omega, fun h2 => ?_⟩, fun h1 => hn _ fun hx => by have := hx _ hm; rw [hg] at h1; omega⟩, fun h => by omega⟩
    rw [wr_in (by omega) (by omega)]
    exact ih (i + 1) _ (by omega) (all_take ht (by omega) hg.symm (by omega))
theorem mult.shape_out {Γ : Ctx} (t : List (List Int)) (hl : t.length ≤ 400) {Q : Exit → St → Prop} (hn : ∀ g, ¬ sq t → Q .ret (mk 42 [(2, eN .i64 4)] [] g))
    (hy : ∀ g, sq t → Q (.exit 1) (mk 42 [] [] g)) :
    ∀ (m i g : Nat), i + m = t.length → (∀ row ∈ t.take i, row.length = t.length ∧ inr t.length row) → W Γ C.mult.shape.L1 (mk 42 [(0, LLI false false t), (15, LLI false false t), (16, eN .i64 t.length), (17, eN .i64 i)] [] g) Q := by
  intro m
  induction m with
  | zero =>
    intro i g hi ht
    refine W.go C.mult.shape.l1.eq_1 ?_
    simp only [↓cnd_t, ↓cnd_f, ↓cnf_t, ↓cnf_f, VS, astep, Nat.reduceEqDiff, Nat.reduceAdd, Nat.reduceMul, Nat.reduceLT, Nat.reduceLeDiff, Nat.reduceBEq, Int.reduceLT, reduceCtorEq]
    exact ⟨fun h => by omega, fun _ => hy _ (take_all ht hi)⟩
  | succ m ih =>
    intro i g hi ht
    refine W.go C.mult.shape.l1.eq_1 ?_
    simp only [↓cnd_t, ↓cnd_f, ↓cnf_t, ↓cnf_f, VS, astep, Nat.reduceEqDiff, Nat.reduceAdd, Nat.reduceMul, Nat.reduceLT, Nat.reduceLeDiff, Nat.reduceBEq, Int.reduceLT, reduceCtorEq]
    have hg : gt t i = t[i] := gt_nat (by omega)
    have hm : t[i] ∈ t := List.getElem_mem _
    refine ⟨fun h => ⟨by omega, fun h1 => hn _ fun hx => h1 ?_, fun h1 => ?_⟩, fun h => by omega⟩
    · rw [hg, (hx _ hm).1]
    · have h1' : (gt t i).length = t.length := by omega
      refine mult.shape_in t (gt t i) _ _ hl h1' ?_ ?_ (gt t i).length 0 _ (by omega) (by simp)
      · intro g hb
        simp only [↓cnd_t, ↓cnd_f, ↓cnf_t, ↓cnf_f, VS, astep, Nat.reduceEqDiff, Nat.reduceAdd, Nat.reduceMul, Nat.reduceLT, Nat.reduceLeDiff, Nat.reduceBEq, Int.reduceLT, reduceCtorEq]
        exact hn _ fun hx => hb (by rw [hg]; exact (hx _ hm).2)
      · intro g hb
        simp only [↓cnd_t, ↓cnd_f, ↓cnf_t, ↓cnf_f, VS, astep, Nat.reduceEqDiff, Nat.reduceAdd, Nat.reduceMul, Nat.reduceLT, Nat.reduceLeDiff, Nat.reduceBEq, Int.reduceLT, reduceCtorEq]
        rw [wr_in (by omega) (by omega)]
        exact ih (i + 1) _ (by omega) (all_take ht (by omega) hg.symm ⟨h1', hb⟩)
theorem ref14.Shape_in {Γ : Ctx} (t : List (List Int)) (row : List Int) (I N : Int) (hl : t.length ≤ 400) (hr : row.length = t.length) {Q : Exit → St → Prop} (hn : ∀ g, ¬ inr t.length row → Q .ret (mk 40 [(2, eN .i64 4)] [] g))
    (hy : ∀ g, inr t.length row → Q (.exit 2) (mk 40 [(0, LLI false false t), (13, LLI false false t), (14, eN .i64 N), (15, eN .i64 I)] [] g)) :
    ∀ (m i g : Nat), i + m = row.length → (∀ x ∈ row.take i, 0 ≤ x ∧ x < t.length) → W Γ C.ref14.Shape.L2 (mk 40 [(0, LLI false false t), (13, LLI false false t), (14, eN .i64 N), (15, eN .i64 I), (24, LI false row), (25, eN .i64 row.length), (26, eN .i64 i)] [] g) Q := by
  intro m
  induction m with
  | zero =>
    intro i g hi ht
    refine W.go C.ref14.Shape.l2.eq_1 ?_
    simp only [↓cnd_t, ↓cnd_f, ↓cnf_t, ↓cnf_f, VS, astep, Nat.reduceEqDiff, Nat.reduceAdd, Nat.reduceMul, Nat.reduceLT, Nat.reduceLeDiff, Nat.reduceBEq, Int.reduceLT, reduceCtorEq]
    exact ⟨fun h => by omega, fun _ => hy _ (take_all ht hi)⟩
  | succ m ih =>
    intro i g hi ht
    refine W.go C.ref14.Shape.l2.eq_1 ?_
    simp only [↓cnd_t, ↓cnd_f, ↓cnf_t, ↓cnf_f, VS, astep, Nat.reduceEqDiff, Nat.reduceAdd, Nat.reduceMul, Nat.reduceLT, Nat.reduceLeDiff, Nat.reduceBEq, Int.reduceLT, reduceCtorEq]
    have hg : gt row i = row[i] := gt_nat (by omega)
    have hm : row[i] ∈ row := List.getElem_mem _
    refine ⟨fun h => ⟨by omega, fun h1 => ⟨fun h2 => hn _ fun hx => by have := hx _ hm; rw [hg] at h2; omega, fun h2 => ?_⟩, fun h1 => hn _ fun hx => by have := hx _ hm; rw [hg] at h1; omega⟩, fun h => by omega⟩
    rw [wr_in (by omega) (by omega)]
    exact ih (i + 1) _ (by omega) (all_take ht (by omega) hg.symm (by omega))
theorem ref14.Shape_out {Γ : Ctx} (t : List (List Int)) (hl : t.length ≤ 400) {Q : Exit → St → Prop} (hn : ∀ g, ¬ sq t → Q .ret (mk 40 [(2, eN .i64 4)] [] g))
    (hy : ∀ g, sq t → Q (.exit 0) (mk 40 [] [] g)) :
    ∀ (m i g : Nat), i + m = t.length → (∀ row ∈ t.take i, row.length = t.length ∧ inr t.length row) → W Γ C.ref14.Shape.L0 (mk 40 [(0, LLI false false t), (13, LLI false false t), (14, eN .i64 t.length), (15, eN .i64 i)] [] g) Q := by
  intro m
  induction m with
  | zero =>
    intro i g hi ht
    refine W.go C.ref14.Shape.l0.eq_1 ?_
    simp only [↓cnd_t, ↓cnd_f, ↓cnf_t, ↓cnf_f, VS, astep, Nat.reduceEqDiff, Nat.reduceAdd, Nat.reduceMul, Nat.reduceLT, Nat.reduceLeDiff, Nat.reduceBEq, Int.reduceLT, reduceCtorEq]
    exact ⟨fun h => by omega, fun _ => hy _ (take_all ht hi)⟩
  | succ m ih =>
    intro i g hi ht
    refine W.go C.ref14.Shape.l0.eq_1 ?_
    simp only [↓cnd_t, ↓cnd_f, ↓cnf_t, ↓cnf_f, VS, astep, Nat.reduceEqDiff, Nat.reduceAdd, Nat.reduceMul, Nat.reduceLT, Nat.reduceLeDiff, Nat.reduceBEq, Int.reduceLT, reduceCtorEq]
    have hg : gt t i = t[i] := gt_nat (by omega)
    have hm : t[i] ∈ t := List.getElem_mem _
    refine ⟨fun h => ⟨by omega, fun h1 => hn _ fun hx => h1 ?_, fun h1 => ?_⟩, fun h => by omega⟩
    · rw [hg, (hx _ hm).1]
    · have h1' : (gt t i).length = t.length := by omega
      refine ref14.Shape_in t (gt t i) _ _ hl h1' ?_ ?_ (gt t i).length 0 _ (by omega) (by simp)
      · intro g hb
        simp only [↓cnd_t, ↓cnd_f, ↓cnf_t, ↓cnf_f, VS, astep, Nat.reduceEqDiff, Nat.reduceAdd, Nat.reduceMul, Nat.reduceLT, Nat.reduceLeDiff, Nat.reduceBEq, Int.reduceLT, reduceCtorEq]
        exact hn _ fun hx => hb (by rw [hg]; exact (hx _ hm).2)
      · intro g hb
        simp only [↓cnd_t, ↓cnd_f, ↓cnf_t, ↓cnf_f, VS, astep, Nat.reduceEqDiff, Nat.reduceAdd, Nat.reduceMul, Nat.reduceLT, Nat.reduceLeDiff, Nat.reduceBEq, Int.reduceLT, reduceCtorEq]
        rw [wr_in (by omega) (by omega)]
        exact ih (i + 1) _ (by omega) (all_take ht (by omega) hg.symm ⟨h1', hb⟩)
def R_Shape (args : List AV) (r : AV) : Prop := ∃ t : List (List Int), t.length < 2 ^ 62 ∧ args = [LLI false false t] ∧ r = eN .i64 (shp t)
theorem fk_mult.shape : Fk prog ⟨F_mult_shape, false, R_Shape⟩ := C.mult.shape.fk (es := []) trivial <| by
  rintro _ _ ⟨t, hl, rfl, rfl⟩
  refine ⟨Run.of C.mult.shape.top.eq_1 (by simp) ?_, fun _ => .lit _⟩
  simp only [↓cnd_t, ↓cnd_f, ↓cnf_t, ↓cnf_f, VS, astep, Nat.reduceEqDiff, Nat.reduceAdd, Nat.reduceMul, Nat.reduceLT, Nat.reduceLeDiff, Nat.reduceBEq, Int.reduceLT, reduceCtorEq, enum, C.mult.shape.rs]
  refine ⟨fun h => ends_n (by decide) rfl ?_, fun h => ⟨fun h2 => ends_n (by decide) rfl ?_, fun h2 => ?_⟩⟩
  · rw [shp, if_pos (by omega)]
  · rw [shp, if_neg (by omega), if_pos (by omega)]
  · refine mult.shape_out t (by omega) ?_ ?_ t.length 0 _ (by omega) (by simp)
    · intro g hb
      simp only [↓cnd_t, ↓cnd_f, ↓cnf_t, ↓cnf_f, VS, astep, Nat.reduceEqDiff, Nat.reduceAdd, Nat.reduceMul, Nat.reduceLT, Nat.reduceLeDiff, Nat.reduceBEq, Int.reduceLT, reduceCtorEq]
      refine ends_n (by decide) rfl ?_
      rw [shp, if_neg (by omega), if_neg (by omega), if_neg hb]
    · intro g hb
      simp only [↓cnd_t, ↓cnd_f, ↓cnf_t, ↓cnf_f, VS, astep, Nat.reduceEqDiff, Nat.reduceAdd, Nat.reduceMul, Nat.reduceLT, Nat.reduceLeDiff, Nat.reduceBEq, Int.reduceLT, reduceCtorEq]
      refine ends_n (by decide) rfl ?_
      rw [shp, if_neg (by omega), if_neg (by omega), if_pos hb]
theorem fk_ref14.Shape : Fk prog ⟨F_ref14_Shape, false, R_Shape⟩ := C.ref14.Shape.fk (es := []) trivial <| by
  rintro _ _ ⟨t, hl, rfl, rfl⟩
  refine ⟨Run.of C.ref14.Shape.top.eq_1 (by simp) ?_, fun _ => .lit _⟩
  simp only [↓cnd_t, ↓cnd_f, ↓cnf_t, ↓cnf_f, VS, astep, Nat.reduceEqDiff, Nat.reduceAdd, Nat.reduceMul, Nat.reduceLT, Nat.reduceLeDiff, Nat.reduceBEq, Int.reduceLT, reduceCtorEq, enum, C.ref14.Shape.rs]
  refine ⟨fun h => ends_n (by decide) rfl ?_, fun h => ⟨fun h2 => ends_n (by decide) rfl ?_, fun h2 => ?_⟩⟩
  · rw [shp, if_pos (by omega)]
  · rw [shp, if_neg (by omega), if_pos (by omega)]
  · refine ref14.Shape_out t (by omega) ?_ ?_ t.length 0 _ (by omega) (by simp)
    · intro g hb
      simp only [↓cnd_t, ↓cnd_f, ↓cnf_t, ↓cnf_f, VS, astep, Nat.reduceEqDiff, Nat.reduceAdd, Nat.reduceMul, Nat.reduceLT, Nat.reduceLeDiff, Nat.reduceBEq, Int.reduceLT, reduceCtorEq]
      refine ends_n (by decide) rfl ?_
      rw [shp, if_neg (by omega), if_neg (by omega), if_neg hb]
    · intro g hb
      simp only [↓cnd_t, ↓cnd_f, ↓cnf_t, ↓cnf_f, VS, astep, Nat.reduceEqDiff, Nat.reduceAdd, Nat.reduceMul, Nat.reduceLT, Nat.reduceLeDiff, Nat.reduceBEq, Int.reduceLT, reduceCtorEq]
      refine ends_n (by decide) rfl ?_
      rw [shp, if_neg (by omega), if_neg (by omega), if_pos hb]
end Go.Proofs.YtbpajecjaoefaaaGreat.V
