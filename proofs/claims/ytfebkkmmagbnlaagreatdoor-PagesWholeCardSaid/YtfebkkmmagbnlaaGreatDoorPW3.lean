/- Part 3. -/
import Derived.Test.YtfebkkmmagbnlaaGreatDoorProg
import Derived.Test.YtfebkkmmagbnlaaGreatDoorPW1
import Derived.Test.YtfebkkmmagbnlaaGreatDoorPW2
import Derived.IntWalk
import Derived.Laws.Sem
import Derived.Laws.Strings
import Derived.Laws.Entries
import Derived.Laws.IdiomStrings
import Derived.Laws.MakeOwn
/-! Ta7 -/
namespace Go.Proofs.YtfebkkmmagbnlaaGreatDoor
open Go Go.Sx
set_option maxRecDepth 100000
def T14 : Tree := (.op (O (.assign (.const (.slice Option.none 0 0))) 33) (.op (O (.assign (.const (.int .i64 0))) 24) (.op (O (.binOp .eql 27 (.tmp 2) (.const (.pointer Option.none)) 27) 4) (.gop (.tmp 0) .false (O (.move (.tmp 3)) 27) (.gop (.tmp 1) .false (O (.move (.tmp 5)) 3) (.gop (.tmp 2) .false (O (.call ⟨(.value (.func 38)), #[(.tmp 1), (.tmp 0)], #[27, 3]⟩) 4) (.gop (.tmp 3) .false (O (.unOp .not 4 (.tmp 0)) 4) (.op (O (.pick (.tmp 4) (.const (.bool .true)) (.tmp 0)) 4) (.cond (.tmp 0) (.op (O (.assign (.const (.slice Option.none 0 0))) 33) (.op (O (.assign (.const (.int .i64 7))) 24) (.ret [(.tmp 1), (.tmp 0)]))) (.op (O (.nilCheck (.tmp 8)) 0) (.op (O (.fieldAddr 78 (.tmp 0) 4) 0) (.op (O (.load 69 (.tmp 0)) 69) (.op (O (.indexAddr 69 (.tmp 0) (.tmp 12)) 0) (.op (O (.fieldAddr 92 (.tmp 0) 1) 0) (.op (O (.load 33 (.tmp 0)) 33) (.op (O (.call ⟨(.value (.func 39)), #[(.tmp 0)], #[33]⟩) 33) (.op (O (.assign (.const (.int .i64 0))) 24) (.ret [(.tmp 1), (.tmp 0)]))))))))))))))))))
def H14 : List (Nat × Nat) := [(0, 99), (1, 99), (2, 99), (3, 99), (4, 99), (5, 99), (6, 99), (7, 99), (8, 99), (9, 99), (10, 99), (11, 99), (12, 99), (13, 99), (14, 99), (15, 99), (16, 99), (17, 99), (18, 99), (19, 99), (20, 99), (21, 99), (22, 99), (23, 99), (24, 99), (25, 99), (26, 99), (27, 99), (28, 99), (29, 99), (30, 99), (31, 99), (32, 99), (33, 99), (34, 99), (35, 99), (36, 99), (37, 99), (38, 99), (39, 99), (40, 99), (41, 99), (42, 99), (43, 99), (44, 99), (45, 99), (46, 99), (47, 99), (48, 99), (49, 99), (50, 99), (51, 99), (52, 99), (53, 99), (54, 99), (55, 99), (56, 99), (57, 99), (58, 99), (59, 99)]
theorem T14_ok : tree H14 Tryz.f14 2 = some T14 := by kernel_rfl
def T22 : Tree := (.op (O (.assign (.const (.bool .false))) 4) (.op (O (.call ⟨(.value (.func 18)), #[(.tmp 1)], #[27]⟩) 41) (.op (O (.extract (.tmp 0) 0) 3) (.op (O (.extract (.tmp 1) 1) 3) (.op (O (.assign (.const (.int .i64 0))) 3) (.op (O (.assign (.const (.int .i64 (-1)))) 3) (.loop [(.tmp 1), (.tmp 0)] (.op (O (.call ⟨(.builtin .len), #[(.tmp 9)], #[48]⟩) 3) (.op (O (.binOp .leq 3 (.tmp 2) (.tmp 0) 3) 4) (.cond (.tmp 0) (.op (O (.call ⟨(.value (.func 14)), #[(.tmp 10), (.tmp 3)], #[27, 3]⟩) 35) (.op (O (.extract (.tmp 0) 0) 33) (.op (O (.extract (.tmp 1) 1) 24) (.op (O (.binOp .lss 3 (.tmp 6) (.const (.int .i64 0)) 3) 4) (.gop (.tmp 0) .false (O (.move (.tmp 7)) 3) (.gop (.tmp 1) .false (O (.move (.tmp 16)) 48) (.gop (.tmp 2) .false (O (.call ⟨(.builtin .len), #[(.tmp 0)], #[48]⟩) 3) (.gop (.tmp 3) .false (O (.binOp .geq 3 (.tmp 2) (.tmp 0) 3) 4) (.op (O (.pick (.tmp 4) (.const (.bool .true)) (.tmp 0)) 4) (.gop (.tmp 0) .false (O (.move (.tmp 20)) 48) (.gop (.tmp 1) .false (O (.move (.tmp 13)) 3) (.gop (.tmp 2) .false (O (.indexAddr 48 (.tmp 1) (.tmp 0)) 0) (.gop (.tmp 3) .false (O (.fieldAddr 105 (.tmp 0) 0) 0) (.gop (.tmp 4) .false (O (.load 4 (.tmp 0)) 4) (.gop (.tmp 5) .false (O (.unOp .not 4 (.tmp 0)) 4) (.op (O (.pick (.tmp 6) (.const (.bool .true)) (.tmp 0)) 4) (.cond (.tmp 0) (.op (O (.binOp .neq 24 (.tmp 13) (.const (.int .i64 7)) 24) 4) (.gop (.tmp 0) .false (O (.move (.tmp 15)) 33) (.gop (.tmp 1) .false (O (.call ⟨(.builtin .len), #[(.tmp 0)], #[33]⟩) 3) (.gop (.tmp 2) .false (O (.binOp .neq 3 (.tmp 0) (.const (.int .i64 0)) 3) 4) (.op (O (.pick (.tmp 3) (.const (.bool .true)) (.tmp 0)) 4) (.cond (.tmp 0) (.op (O (.assign (.const (.bool .false))) 4) (.ret [(.tmp 0)])) (.op (O (.binOp .geq 3 (.tmp 24) (.const (.int .i64 0)) 3) 4) (.gop (.tmp 0) .true (O (.move (.tmp 25)) 3) (.gop (.tmp 1) .true (O (.move (.tmp 34)) 48) (.gop (.tmp 2) .true (O (.call ⟨(.builtin .len), #[(.tmp 0)], #[48]⟩) 3) (.gop (.tmp 3) .true (O (.binOp .lss 3 (.tmp 2) (.tmp 0) 3) 4) (.op (O (.pick (.tmp 4) (.tmp 0) (.const (.bool .false))) 4) (.cond (.tmp 0) (.op (O (.binOp .add 3 (.tmp 29) (.const (.int .i64 1)) 3) 3) (.op (O (.binOp .add 3 (.tmp 31) (.const (.int .i64 1)) 3) 3) (.back 0 [(.tmp 1), (.tmp 0)]))) (.op (O (.binOp .add 3 (.tmp 30) (.const (.int .i64 1)) 3) 3) (.back 0 [(.tmp 30), (.tmp 0)]))))))))))))))) (.op (O (.binOp .neq 24 (.tmp 13) (.const (.int .i64 0)) 24) 4) (.gop (.tmp 0) .false (O (.move (.tmp 15)) 33) (.gop (.tmp 1) .false (O (.move (.tmp 29)) 48) (.gop (.tmp 2) .false (O (.move (.tmp 22)) 3) (.gop (.tmp 3) .false (O (.indexAddr 48 (.tmp 1) (.tmp 0)) 0) (.gop (.tmp 4) .false (O (.fieldAddr 105 (.tmp 0) 1) 0) (.gop (.tmp 5) .false (O (.load 33 (.tmp 0)) 33) (.gop (.tmp 6) .false (O (.call ⟨(.value (.func 25)), #[(.tmp 5), (.tmp 0)], #[33, 33]⟩) 4) (.gop (.tmp 7) .false (O (.unOp .not 4 (.tmp 0)) 4) (.op (O (.pick (.tmp 8) (.const (.bool .true)) (.tmp 0)) 4) (.cond (.tmp 0) (.op (O (.assign (.const (.bool .false))) 4) (.ret [(.tmp 0)])) (.op (O (.binOp .add 3 (.tmp 29) (.const (.int .i64 1)) 3) 3) (.back 0 [(.tmp 29), (.tmp 0)])))))))))))))))))))))))))))))) (.op (O (.call ⟨(.builtin .len), #[(.tmp 11)], #[48]⟩) 3) (.op (O (.binOp .eql 3 (.tmp 8) (.tmp 0) 3) 4) (.gop (.tmp 0) .true (O (.move (.tmp 8)) 3) (.gop (.tmp 1) .true (O (.move (.tmp 5)) 3) (.gop (.tmp 2) .true (O (.binOp .eql 3 (.tmp 1) (.tmp 0) 3) 4) (.op (O (.pick (.tmp 3) (.tmp 0) (.const (.bool .false))) 4) (.gop (.tmp 0) .true (O (.move (.tmp 18)) 3) (.gop (.tmp 1) .true (O (.binOp .lss 3 (.tmp 0) (.const (.int .i64 0)) 3) 4) (.gop (.tmp 2) .true (O (.move (.tmp 0)) 4) (.gop (.tmp 0) .false (O (.move (.tmp 19)) 27) (.gop (.tmp 1) .false (O (.call ⟨(.value (.func 19)), #[(.tmp 0)], #[27]⟩) 3) (.gop (.tmp 2) .false (O (.move (.tmp 23)) 3) (.gop (.tmp 3) .false (O (.binOp .eql 3 (.tmp 1) (.tmp 0) 3) 4) (.gop (.tmp 7) .true (O (.pick (.tmp 4) (.const (.bool .true)) (.tmp 0)) 4) (.op (O (.pick (.tmp 8) (.tmp 0) (.const (.bool .false))) 4) (.ret [(.tmp 0)]))))))))))))))))))))))))))
def H22 : List (Nat × Nat) := [(0, 99), (1, 99), (2, 99), (3, 99), (4, 99), (5, 99), (6, 99), (7, 99), (8, 99), (9, 99), (10, 99), (11, 99), (12, 99), (13, 99), (14, 99), (15, 99), (16, 99), (17, 99), (18, 99), (19, 99), (20, 99), (21, 99), (22, 99), (23, 99), (24, 99), (25, 99), (26, 99), (27, 99), (28, 99), (29, 99), (30, 99), (31, 99), (32, 99), (33, 99), (34, 99), (35, 99), (36, 99), (37, 99), (38, 99), (39, 99), (40, 99), (41, 99), (42, 99), (43, 99), (44, 99), (45, 99), (46, 99), (47, 99), (48, 99), (49, 99), (50, 99), (51, 99), (52, 99), (53, 99), (54, 99), (55, 99), (56, 99), (57, 99), (58, 99), (59, 99)]
theorem T22_ok : tree H22 Tryz.f22 3 = some T22 := by kernel_rfl
def T30 : Tree := (.op (O (.assign (.const (.int .u64 0))) 64) (.op (O (.assign (.const (.int .i64 0))) 3) (.op (O (.assign (.const (.int .u64 0))) 64) (.op (O (.call ⟨(.builtin .len), #[(.tmp 3)], #[33]⟩) 3) (.op (O (.move (.const (.int .i64 0))) 3) (.loop [(.tmp 2), (.tmp 0)] (.op (O (.binOp .lss 3 (.tmp 1) (.tmp 3) 3) 0) (.cond (.tmp 0) (.op (O (.indexAddr 33 (.tmp 8) (.tmp 2)) 0) (.op (O (.load 5 (.tmp 0)) 5) (.op (O (.binOp .eql 3 (.tmp 4) (.const (.int .i64 10)) 3) 4) (.cond (.tmp 0) (.op (O (.binOp .add 3 (.tmp 5) (.const (.int .i64 1)) 3) 3) (.op (O (.unOp .neg 3 (.tmp 0)) 3) (.op (O (.assign (.const (.int .u64 0))) 64) (.ret [(.tmp 0), (.tmp 1)])))) (.op (O (.binOp .lss 5 (.tmp 1) (.const (.int .u8 128)) 5) 4) (.cond (.tmp 0) (.op (O (.binOp .eql 3 (.tmp 6) (.const (.int .i64 9)) 3) 4) (.gop (.tmp 0) .true (O (.move (.tmp 3)) 5) (.gop (.tmp 1) .true (O (.binOp .gtr 5 (.tmp 0) (.const (.int .u8 1)) 5) 4) (.op (O (.pick (.tmp 2) (.tmp 0) (.const (.bool .false))) 4) (.cond (.tmp 0) (.op (O (.binOp .add 3 (.tmp 10) (.const (.int .i64 1)) 3) 3) (.op (O (.unOp .neg 3 (.tmp 0)) 3) (.op (O (.assign (.const (.int .u64 0))) 64) (.ret [(.tmp 0), (.tmp 1)])))) (.op (O (.convert 5 64 (.tmp 6)) 64) (.op (O (.binOp .mul 3 (.const (.int .i64 7)) (.tmp 11) 3) 3) (.op (O (.binOp .shl 64 (.tmp 1) (.tmp 0) 3) 64) (.op (O (.binOp .or 64 (.tmp 12) (.tmp 0) 64) 64) (.op (O (.binOp .add 3 (.tmp 14) (.const (.int .i64 1)) 3) 3) (.ret [(.tmp 1), (.tmp 0)]))))))))))) (.op (O (.binOp .and 5 (.tmp 2) (.const (.int .u8 127)) 5) 5) (.op (O (.convert 5 64 (.tmp 0)) 64) (.op (O (.binOp .mul 3 (.const (.int .i64 7)) (.tmp 8) 3) 3) (.op (O (.binOp .shl 64 (.tmp 1) (.tmp 0) 3) 64) (.op (O (.binOp .or 64 (.tmp 9) (.tmp 0) 64) 64) (.op (O (.binOp .add 3 (.tmp 11) (.const (.int .i64 1)) 3) 3) (.back 0 [(.tmp 1), (.tmp 0)]))))))))))))) (.op (O (.assign (.const (.int .u64 0))) 64) (.op (O (.assign (.const (.int .i64 0))) 3) (.ret [(.tmp 1), (.tmp 0)])))))))))))
def H30 : List (Nat × Nat) := []
theorem T30_ok : tree H30 Tryz.f30 1 = some T30 := by kernel_rfl
def T38 : Tree := (.op (O (.assign (.const (.bool .false))) 4) (.op (O (.binOp .geq 3 (.tmp 2) (.const (.int .i64 0)) 3) 4) (.gop (.tmp 0) .true (O (.move (.tmp 3)) 3) (.gop (.tmp 1) .true (O (.move (.tmp 3)) 27) (.gop (.tmp 2) .true (O (.nilCheck (.tmp 0)) 0) (.gop (.tmp 3) .true (O (.fieldAddr 78 (.tmp 0) 4) 0) (.gop (.tmp 4) .true (O (.load 69 (.tmp 0)) 69) (.gop (.tmp 5) .true (O (.call ⟨(.builtin .len), #[(.tmp 0)], #[69]⟩) 3) (.gop (.tmp 6) .true (O (.binOp .lss 3 (.tmp 5) (.tmp 0) 3) 4) (.op (O (.pick (.tmp 7) (.tmp 0) (.const (.bool .false))) 4) (.gop (.tmp 0) .true (O (.move (.tmp 10)) 27) (.gop (.tmp 1) .true (O (.nilCheck (.tmp 0)) 0) (.gop (.tmp 2) .true (O (.fieldAddr 78 (.tmp 0) 4) 0) (.gop (.tmp 3) .true (O (.load 69 (.tmp 0)) 69) (.gop (.tmp 4) .true (O (.move (.tmp 15)) 3) (.gop (.tmp 5) .true (O (.indexAddr 69 (.tmp 1) (.tmp 0)) 0) (.gop (.tmp 6) .true (O (.fieldAddr 92 (.tmp 0) 0) 0) (.gop (.tmp 7) .true (O (.load 4 (.tmp 0)) 4) (.op (O (.pick (.tmp 8) (.tmp 0) (.const (.bool .false))) 4) (.ret [(.tmp 0)]))))))))))))))))))))
def H38 : List (Nat × Nat) := []
theorem T38_ok : tree H38 Tryz.f38 2 = some T38 := by kernel_rfl
def T46 : Tree := (.op (O (.assign (.const (.int .i64 0))) 3) (.op (O (.call ⟨(.value (.func 81)), #[(.tmp 1), (.tmp 2)], #[47, 3]⟩) 4) (.op (O (.unOp .not 4 (.tmp 0)) 4) (.cond (.tmp 0) (.op (O (.assign (.const (.int .i64 7))) 3) (.ret [(.tmp 0)])) (.op (O (.nilCheck (.tmp 3)) 0) (.op (O (.fieldAddr 51 (.tmp 0) 0) 0) (.op (O (.load 48 (.tmp 0)) 48) (.op (O (.build 105 #[]) 105) (.op (O (.indexAddr 48 (.tmp 1) (.tmp 8)) 0) (.op (O (.store 105 (.tmp 0) (.tmp 1)) 0) (.op (O (.call ⟨(.value (.func 80)), #[(.tmp 9), (.tmp 10)], #[47, 3]⟩) 0) (.op (O (.assign (.const (.int .i64 0))) 3) (.ret [(.tmp 0)])))))))))))))
def H46 : List (Nat × Nat) := [(0, 99), (1, 99), (2, 99), (3, 99), (4, 99), (5, 99), (6, 99), (7, 99), (8, 99), (9, 99), (10, 99), (11, 99), (12, 99), (13, 99), (14, 99), (15, 99), (16, 99), (17, 99), (18, 99), (19, 99), (20, 99), (21, 99), (22, 99), (23, 99), (24, 99), (25, 99), (26, 99), (27, 99), (28, 99), (29, 99), (30, 99), (31, 99), (32, 99), (33, 99), (34, 99), (35, 99), (36, 99), (37, 99), (38, 99), (39, 99), (40, 99), (41, 99), (42, 99), (43, 99), (44, 99), (45, 99), (46, 99), (47, 99), (48, 99), (49, 99), (50, 99), (51, 99), (52, 99), (53, 99), (54, 99), (55, 99), (56, 99), (57, 99), (58, 99), (59, 99)]
theorem T46_ok : tree H46 Tryz.f46 2 = some T46 := by kernel_rfl
def T54 : Tree := (.op (O (.nilCheck (.tmp 0)) 0) (.op (O (.fieldAddr 63 (.tmp 0) 2) 0) (.op (O (.load 59 (.tmp 0)) 59) (.op (O (.binOp .eql 59 (.tmp 0) (.const (.pointer Option.none)) 59) 4) (.cond (.tmp 0) (.op (O (.call ⟨(.value (.func 26)), #[], #[]⟩) 59) (.op (O (.call ⟨(.value (.func 26)), #[], #[]⟩) 59) (.op (O (.nilCheck (.tmp 6)) 0) (.op (O (.fieldAddr 63 (.tmp 0) 1) 0) (.op (O (.store 59 (.tmp 0) (.tmp 3)) 0) (.op (O (.nilCheck (.tmp 9)) 0) (.op (O (.fieldAddr 63 (.tmp 0) 2) 0) (.op (O (.store 59 (.tmp 0) (.tmp 5)) 0) (.ret []))))))))) (.ret []))))))
def H54 : List (Nat × Nat) := []
theorem T54_ok : tree H54 Tryz.f54 1 = some T54 := by kernel_rfl
def T62 : Tree := (.op (O (.assign (.const (.string { data := #[] }))) 9) (.op (O (.call ⟨(.value (.func 87)), #[(.tmp 1), (.tmp 2)], #[64, 3]⟩) 9) (.ret [(.tmp 0)])))
def H62 : List (Nat × Nat) := []
theorem T62_ok : tree H62 Tryz.f62 2 = some T62 := by kernel_rfl
def T70 : Tree := (.op (O (.box 92 (.tmp 1)) 0) (.op (O (.assign (.const (.slice Option.none 0 0))) 33) (.op (O (.convert 3 64 (.tmp 2)) 64) (.op (O (.call ⟨(.value (.func 74)), #[(.const (.slice Option.none 0 0)), (.tmp 0)], #[33, 64]⟩) 33) (.op (O (.assign (.const (.int .u8 0))) 5) (.op (O (.fieldAddr 92 (.tmp 4) 0) 0) (.op (O (.load 4 (.tmp 0)) 4) (.cond (.tmp 0) (.op (O (.assign (.const (.int .u8 1))) 5) (.mix (.mq none (O (.fieldAddr 92 (.tmp 7) 1) 0) (.mq none (O (.load 33 (.tmp 0)) 33) (.op (O (.buildSlice 33 1 #[(0, (.tmp 2))]) 33) (.mD (.op (O (.call ⟨(.builtin .append), #[(.tmp 7), (.tmp 0)], #[33, 33]⟩) 33) (.mD (.op (O (.call ⟨(.builtin .append), #[(.tmp 0), (.tmp 2)], #[33, 33]⟩) 33) (.mR (.mend (.ret [(.tmp 0)])))))))))))) (.mix (.mq none (O (.fieldAddr 92 (.tmp 6) 1) 0) (.mq none (O (.load 33 (.tmp 0)) 33) (.op (O (.buildSlice 33 1 #[(0, (.tmp 4))]) 33) (.mD (.op (O (.call ⟨(.builtin .append), #[(.tmp 6), (.tmp 0)], #[33, 33]⟩) 33) (.mD (.op (O (.call ⟨(.builtin .append), #[(.tmp 0), (.tmp 2)], #[33, 33]⟩) 33) (.mR (.mend (.ret [(.tmp 0)])))))))))))))))))))
def H70 : List (Nat × Nat) := [(0, 99), (1, 99), (2, 99), (3, 99), (4, 99), (5, 99), (6, 99), (7, 99), (8, 99), (9, 99), (10, 99), (11, 99), (12, 99), (13, 99), (14, 99), (15, 99), (16, 99), (17, 99), (18, 99), (19, 99), (20, 99), (21, 99), (22, 99), (23, 99), (24, 99), (25, 99), (26, 99), (27, 99), (28, 99), (29, 99), (30, 99), (31, 99), (32, 99), (33, 99), (34, 99), (35, 99), (36, 99), (37, 99), (38, 99), (39, 99), (40, 99), (41, 99), (42, 99), (43, 99), (44, 99), (45, 99), (46, 99), (47, 99), (48, 99), (49, 99), (50, 99), (51, 99), (52, 99), (53, 99), (54, 99), (55, 99), (56, 99), (57, 99), (58, 99), (59, 99)]
theorem T70_ok : tree H70 Tryz.f70 2 = some T70 := by kernel_rfl
def T78 : Tree := (.op (O (.assign (.const (.int .i64 0))) 24) (.op (O (.call ⟨(.value (.func 96)), #[(.tmp 1), (.const (.slice Option.none 0 0))], #[23, 142]⟩) 24) (.op (O (.binOp .neq 24 (.tmp 0) (.const (.int .i64 0)) 24) 4) (.cond (.tmp 0) (.ret [(.tmp 1)]) (.op (O (.nilCheck (.tmp 3)) 0) (.op (O (.fieldAddr 63 (.tmp 0) 3) 0) (.op (O (.load 61 (.tmp 0)) 61) (.op (O (.call ⟨(.builtin .len), #[(.tmp 0)], #[61]⟩) 3) (.op (O (.call ⟨(.value (.func 55)), #[(.tmp 7), (.tmp 0)], #[23, 3]⟩) 0) (.op (O (.call ⟨(.value (.func 105)), #[(.tmp 8)], #[23]⟩) 0) (.op (O (.assign (.const (.int .i64 0))) 24) (.ret [(.tmp 0)]))))))))))))
def H78 : List (Nat × Nat) := []
theorem T78_ok : tree H78 Tryz.f78 1 = some T78 := by kernel_rfl
def T86 : Tree := (.op (O (.assign (.const (.string { data := #[] }))) 9) (.op (O (.call ⟨(.value (.func 110)), #[(.tmp 1), (.const (.int .i64 10))], #[2, 3]⟩) 9) (.ret [(.tmp 0)])))
def H86 : List (Nat × Nat) := []
theorem T86_ok : tree H86 Tryz.f86 1 = some T86 := by kernel_rfl
def T94 : Tree := (.op (O (.box 9 (.tmp 1)) 0) (.op (O (.box 33 (.tmp 3)) 0) (.op (O (.assign (.const (.int .i64 0))) 24) (.op (O (.load 9 (.tmp 2)) 9) (.op (O (.buildSlice 142 1 #[(0, (.tmp 0))]) 142) (.op (O (.call ⟨(.value (.func 96)), #[(.tmp 5), (.tmp 0)], #[23, 142]⟩) 24) (.op (O (.binOp .neq 24 (.tmp 0) (.const (.int .i64 0)) 24) 4) (.cond (.tmp 0) (.ret [(.tmp 1)]) (.draw [⟨none, (O (.nilCheck (.tmp 7)) 0)⟩, ⟨none, (O (.fieldAddr 63 (.tmp 0) 2) 0)⟩, ⟨none, (O (.load 59 (.tmp 0)) 59)⟩, ⟨none, (O (.nilCheck (.tmp 0)) 0)⟩, ⟨none, (O (.fieldAddr 109 (.tmp 0) 0) 0)⟩, ⟨none, (O (.load 107 (.tmp 0)) 107)⟩, ⟨none, (O (.load 9 (.tmp 12)) 9)⟩, ⟨none, (O (.lookup 107 (.tmp 1) (.tmp 0) .false) 110)⟩] (.op (O (.binOp .eql 110 (.tmp 0) (.const (.pointer Option.none)) 110) 4) (.cond (.tmp 0) (.op (O (.assign (.const (.int .i64 7))) 24) (.ret [(.tmp 0)])) (.draw [⟨none, (O (.load 33 (.tmp 14)) 33)⟩, ⟨none, (O (.call ⟨(.builtin .len), #[(.tmp 0)], #[33]⟩) 3)⟩, ⟨none, (O (.nilCheck (.tmp 3)) 0)⟩, ⟨none, (O (.fieldAddr 114 (.tmp 0) 0) 0)⟩, ⟨none, (O (.load 33 (.tmp 0)) 33)⟩, ⟨none, (O (.call ⟨(.builtin .len), #[(.tmp 0)], #[33]⟩) 3)⟩, ⟨none, (O (.binOp .sub 3 (.const (.int .i64 1048576)) (.tmp 0) 3) 3)⟩, ⟨none, (O (.binOp .gtr 3 (.tmp 5) (.tmp 0) 3) 4)⟩] (.cond (.tmp 0) (.op (O (.assign (.const (.int .i64 5))) 24) (.ret [(.tmp 0)])) (.draw [⟨none, (O (.nilCheck (.tmp 24)) 0)⟩, ⟨none, (O (.fieldAddr 63 (.tmp 0) 2) 0)⟩, ⟨none, (O (.load 59 (.tmp 0)) 59)⟩, ⟨none, (O (.nilCheck (.tmp 0)) 0)⟩, ⟨none, (O (.fieldAddr 109 (.tmp 0) 1) 0)⟩, ⟨none, (O (.load 3 (.tmp 0)) 3)⟩, ⟨none, (O (.load 33 (.tmp 28)) 33)⟩, ⟨none, (O (.call ⟨(.builtin .len), #[(.tmp 0)], #[33]⟩) 3)⟩, ⟨none, (O (.binOp .add 3 (.tmp 2) (.tmp 0) 3) 3)⟩, ⟨none, (O (.nilCheck (.tmp 33)) 0)⟩, ⟨none, (O (.fieldAddr 63 (.tmp 0) 0) 0)⟩, ⟨none, (O (.load 3 (.tmp 0)) 3)⟩, ⟨none, (O (.binOp .gtr 3 (.tmp 3) (.tmp 0) 3) 4)⟩] (.cond (.tmp 0) (.op (O (.assign (.const (.int .i64 6))) 24) (.ret [(.tmp 0)])) (.op (O (.load 33 (.tmp 35)) 33) (.op (O (.call ⟨(.value (.func 39)), #[(.tmp 0)], #[33]⟩) 33) (.op (O (.store 33 (.tmp 37) (.tmp 0)) 0) (.op (O (.makeFunc (.func 119) #[] #[(.tmp 39), (.tmp 38)]) 152) (.op (O (.call ⟨(.value (.func 97)), #[(.tmp 41), (.tmp 0)], #[23, 153]⟩) 24) (.ret [(.tmp 0)])))))))))))))))))))))
def H94 : List (Nat × Nat) := []
theorem T94_ok : tree H94 Tryz.f94 3 = some T94 := by kernel_rfl
def T102 : Tree := (.op (O (.nilCheck (.tmp 2)) 0) (.op (O (.fieldAddr 114 (.tmp 0) 1) 0) (.op (O (.call ⟨(.value (.func 83)), #[(.tmp 0), (.const (.int .i32 1))], #[112, 21]⟩) 21) (.op (O (.nilCheck (.tmp 3)) 0) (.op (O (.fieldAddr 109 (.tmp 0) 0) 0) (.op (O (.load 107 (.tmp 0)) 107) (.op (O (.lookup 107 (.tmp 0) (.tmp 7) .false) 110) (.op (O (.binOp .neq 110 (.tmp 0) (.tmp 9) 110) 4) (.cond (.tmp 0) (.op (O (.call ⟨(.value (.func 99)), #[(.tmp 8), (.tmp 9)], #[59, 9]⟩) 0) (.op (O (.nilCheck (.tmp 9)) 0) (.op (O (.fieldAddr 109 (.tmp 0) 0) 0) (.op (O (.load 107 (.tmp 0)) 107) (.op (O (.mapUpdate 107 (.tmp 0) (.tmp 13) (.tmp 14)) 0) (.ret [])))))) (.op (O (.nilCheck (.tmp 10)) 0) (.op (O (.fieldAddr 114 (.tmp 0) 1) 0) (.op (O (.call ⟨(.value (.func 83)), #[(.tmp 0), (.const (.int .i32 (-1)))], #[112, 21]⟩) 21) (.op (O (.nilCheck (.tmp 11)) 0) (.op (O (.fieldAddr 109 (.tmp 0) 0) 0) (.op (O (.load 107 (.tmp 0)) 107) (.op (O (.mapUpdate 107 (.tmp 0) (.tmp 15) (.tmp 16)) 0) (.ret [])))))))))))))))))
def H102 : List (Nat × Nat) := []
theorem T102_ok : tree H102 Tryz.f102 3 = some T102 := by kernel_rfl
def T110 : Tree := (.op (O (.assign (.const (.string { data := #[] }))) 9) (.op (O (.binOp .eql 3 (.tmp 2) (.const (.int .i64 10)) 3) 4) (.cond (.tmp 0) (.op (O (.binOp .leq 2 (.const (.int .i64 0)) (.tmp 2) 2) 4) (.gop (.tmp 0) .true (O (.move (.tmp 3)) 2) (.gop (.tmp 1) .true (O (.binOp .lss 2 (.tmp 0) (.const (.int .i64 100)) 2) 4) (.op (O (.pick (.tmp 2) (.tmp 0) (.const (.bool .false))) 4) (.cond (.tmp 0) (.op (O (.call ⟨(.value (.func 111)), #[(.tmp 6)], #[3]⟩) 9) (.ret [(.tmp 0)])) (.op (O (.alloc 180) 0) (.op (O (.convert 2 64 (.tmp 7)) 64) (.op (O (.binOp .lss 2 (.tmp 8) (.const (.int .i64 0)) 2) 4) (.cond (.tmp 0) (.op (O (.unOp .neg 64 (.tmp 1)) 64) (.op (O (.call ⟨(.value (.func 112)), #[(.tmp 0)], #[64]⟩) 3) (.op (O (.binOp .add 3 (.const (.int .i64 1)) (.tmp 0) 3) 3) (.op (O (.slice 180 (.tmp 5) (some (.const (.int .i64 1))) (some (.tmp 0)) none) 33) (.op (O (.call ⟨(.value (.func 113)), #[(.tmp 0), (.tmp 3)], #[33, 64]⟩) 0) (.op (O (.binOp .lss 2 (.tmp 14) (.const (.int .i64 0)) 2) 4) (.cond (.tmp 0) (.op (O (.indexAddr 180 (.tmp 8) (.const (.int .i64 0))) 0) (.op (O (.store 5 (.tmp 0) (.const (.int .u8 45))) 0) (.op (O (.binOp .add 3 (.const (.int .i64 1)) (.tmp 6) 3) 3) (.op (O (.slice 180 (.tmp 11) none (some (.tmp 0)) none) 33) (.op (O (.convert 33 9 (.tmp 0)) 9) (.ret [(.tmp 0)])))))) (.op (O (.binOp .add 3 (.const (.int .i64 1)) (.tmp 4) 3) 3) (.op (O (.slice 180 (.tmp 9) (some (.const (.int .i64 1))) (some (.tmp 0)) none) 33) (.op (O (.convert 33 9 (.tmp 0)) 9) (.ret [(.tmp 0)]))))))))))) (.op (O (.call ⟨(.value (.func 112)), #[(.tmp 1)], #[64]⟩) 3) (.op (O (.binOp .add 3 (.const (.int .i64 1)) (.tmp 0) 3) 3) (.op (O (.slice 180 (.tmp 4) (some (.const (.int .i64 1))) (some (.tmp 0)) none) 33) (.op (O (.call ⟨(.value (.func 113)), #[(.tmp 0), (.tmp 4)], #[33, 64]⟩) 0) (.op (O (.binOp .lss 2 (.tmp 13) (.const (.int .i64 0)) 2) 4) (.cond (.tmp 0) (.op (O (.indexAddr 180 (.tmp 7) (.const (.int .i64 0))) 0) (.op (O (.store 5 (.tmp 0) (.const (.int .u8 45))) 0) (.op (O (.binOp .add 3 (.const (.int .i64 1)) (.tmp 6) 3) 3) (.op (O (.slice 180 (.tmp 10) none (some (.tmp 0)) none) 33) (.op (O (.convert 33 9 (.tmp 0)) 9) (.ret [(.tmp 0)])))))) (.op (O (.binOp .add 3 (.const (.int .i64 1)) (.tmp 4) 3) 3) (.op (O (.slice 180 (.tmp 8) (some (.const (.int .i64 1))) (some (.tmp 0)) none) 33) (.op (O (.convert 33 9 (.tmp 0)) 9) (.ret [(.tmp 0)]))))))))))))))))))) (.op (O (.convert 2 64 (.tmp 2)) 64) (.op (O (.binOp .lss 2 (.tmp 3) (.const (.int .i64 0)) 2) 4) (.op (O (.call ⟨(.value (.func 114)), #[(.const (.slice Option.none 0 0)), (.tmp 1), (.tmp 5), (.tmp 0), (.const (.bool .false))], #[33, 64, 3, 4, 4]⟩) 182) (.op (O (.extract (.tmp 0) 0) 33) (.op (O (.extract (.tmp 1) 1) 9) (.ret [(.tmp 0)])))))))))
def H110 : List (Nat × Nat) := []
theorem T110_ok : tree H110 Tryz.f110 2 = some T110 := by kernel_rfl
def T118 : Tree := (.op (O (.load 121 (.tmp 0)) 121) (.op (O (.nilCheck (.tmp 0)) 0) (.op (O (.fieldAddr 133 (.tmp 0) 0) 0) (.op (O (.load 90 (.tmp 0)) 90) (.op (O (.call ⟨(.builtin .len), #[(.tmp 0)], #[90]⟩) 3) (.op (O (.convert 3 64 (.tmp 0)) 64) (.op (O (.call ⟨(.value (.func 115)), #[(.const (.slice Option.none 0 0)), (.tmp 0)], #[33, 64]⟩) 33) (.op (O (.load 121 (.tmp 7)) 121) (.op (O (.nilCheck (.tmp 0)) 0) (.op (O (.fieldAddr 133 (.tmp 0) 0) 0) (.op (O (.load 90 (.tmp 0)) 90) (.op (O (.call ⟨(.builtin .len), #[(.tmp 0)], #[90]⟩) 3) (.op (O (.move (.const (.int .i64 0))) 3) (.loop [(.tmp 6), (.tmp 0)] (.op (O (.binOp .lss 3 (.tmp 1) (.tmp 3) 3) 0) (.cond (.tmp 0) (.op (O (.indexAddr 90 (.tmp 5) (.tmp 2)) 0) (.op (O (.load 33 (.tmp 0)) 33) (.op (O (.call ⟨(.builtin .len), #[(.tmp 0)], #[33]⟩) 3) (.op (O (.convert 3 64 (.tmp 0)) 64) (.op (O (.call ⟨(.value (.func 115)), #[(.tmp 5), (.tmp 0)], #[33, 64]⟩) 33) (.op (O (.call ⟨(.builtin .append), #[(.tmp 0), (.tmp 3)], #[33, 33]⟩) 33) (.op (O (.binOp .add 3 (.tmp 8) (.const (.int .i64 1)) 3) 3) (.back 0 [(.tmp 1), (.tmp 0)])))))))) (.op (O (.call ⟨(.value (.func 85)), #[(.tmp 1)], #[33]⟩) 158) (.op (O (.alloc 158) 0) (.op (O (.store 158 (.tmp 0) (.tmp 1)) 0) (.mix (.mq none (O (.load 121 (.tmp 19)) 121) (.mq none (O (.call ⟨(.builtin .len), #[(.tmp 5)], #[33]⟩) 3) (.mq none (O (.convert 3 64 (.tmp 0)) 64) (.mq none (O (.slice 158 (.tmp 4) none none none) 33) (.op (O (.call ⟨(.value (.func 115)), #[(.const (.slice Option.none 0 0)), (.tmp 1)], #[33, 64]⟩) 33) (.mD (.op (O (.call ⟨(.builtin .append), #[(.tmp 9), (.tmp 1)], #[33, 33]⟩) 33) (.mD (.op (O (.call ⟨(.builtin .append), #[(.tmp 1), (.tmp 0)], #[33, 33]⟩) 33) (.mD (.mq none (O (.nilCheck (.tmp 6)) 0) (.mq none (O (.fieldAddr 133 (.tmp 0) 3) 0) (.op (O (.store 33 (.tmp 0) (.tmp 2)) 0) (.mR (.mend (.ret []))))))))))))))))))))))))))))))))))))
def H118 : List (Nat × Nat) := [(7, 13)]
theorem T118_ok : tree H118 Tryz.f118 1 = some T118 := by kernel_rfl
end Go.Proofs.YtfebkkmmagbnlaaGreatDoor
/-! Ta8 -/
namespace Go.Proofs.YtfebkkmmagbnlaaGreatDoor
open Go Go.Sx
set_option maxRecDepth 100000
def T7 : Tree := (.op (O (.assign (.const (.bool .false))) 4) (.op (O (.call ⟨(.value (.func 20)), #[(.tmp 1)], #[45]⟩) 4) (.gop (.tmp 0) .false (O (.move (.tmp 3)) 3) (.gop (.tmp 1) .false (O (.binOp .lss 3 (.tmp 0) (.const (.int .i64 0)) 3) 4) (.op (O (.pick (.tmp 2) (.const (.bool .true)) (.tmp 0)) 4) (.gop (.tmp 0) .false (O (.move (.tmp 6)) 3) (.gop (.tmp 1) .false (O (.binOp .gtr 3 (.tmp 0) (.const (.int .i64 5000)) 3) 4) (.op (O (.pick (.tmp 2) (.const (.bool .true)) (.tmp 0)) 4) (.cond (.tmp 0) (.op (O (.call ⟨(.value (.func 8)), #[], #[]⟩) 4) (.ret [(.tmp 0)])) (.op (O (.call ⟨(.value (.func 9)), #[(.const (.int .i64 16777216))], #[3]⟩) 25) (.op (O (.extract (.tmp 0) 0) 23) (.op (O (.extract (.tmp 1) 1) 24) (.op (O (.call ⟨(.value (.func 10)), #[(.tmp 1), (.const (.string { data := #[112, 97, 103, 101, 115] }))], #[23, 9]⟩) 28) (.op (O (.extract (.tmp 0) 0) 27) (.op (O (.extract (.tmp 1) 1) 24) (.op (O (.binOp .neq 24 (.tmp 0) (.const (.int .i64 0)) 24) 4) (.gop (.tmp 0) .false (O (.move (.tmp 2)) 27) (.gop (.tmp 1) .false (O (.binOp .eql 27 (.tmp 0) (.const (.pointer Option.none)) 27) 4) (.op (O (.pick (.tmp 2) (.const (.bool .true)) (.tmp 0)) 4) (.cond (.tmp 0) (.op (O (.assign (.const (.bool .false))) 4) (.ret [(.tmp 0)])) (.op (O (.build 51 #[]) 51) (.op (O (.box 51 (.tmp 0)) 47) (.op (O (.call ⟨(.value (.func 15)), #[(.tmp 10), (.tmp 21)], #[23, 3]⟩) 0) (.op (O (.assign (.const (.bool .false))) 4) (.op (O (.assign (.const (.int .i64 0))) 3) (.loop [(.tmp 1), (.tmp 0)] (.op (O (.call ⟨(.builtin .len), #[(.tmp 25)], #[45]⟩) 3) (.op (O (.binOp .lss 3 (.tmp 2) (.tmp 0) 3) 4) (.gop (.tmp 0) .true (O (.move (.tmp 3)) 3) (.gop (.tmp 1) .true (O (.binOp .lss 3 (.tmp 0) (.const (.int .i64 120)) 3) 4) (.op (O (.pick (.tmp 2) (.tmp 0) (.const (.bool .false))) 4) (.gop (.tmp 0) .true (O (.move (.tmp 5)) 4) (.gop (.tmp 1) .true (O (.unOp .not 4 (.tmp 0)) 4) (.op (O (.pick (.tmp 2) (.tmp 0) (.const (.bool .false))) 4) (.cond (.tmp 0) (.op (O (.indexAddr 45 (.tmp 33) (.tmp 9)) 0) (.op (O (.fieldAddr 55 (.tmp 0) 0) 0) (.op (O (.load 3 (.tmp 0)) 3) (.op (O (.binOp .eql 3 (.tmp 0) (.const (.int .i64 5)) 3) 4) (.cond (.tmp 0) (.op (O (.call ⟨(.value (.func 16)), #[(.tmp 24)], #[27]⟩) 24) (.op (O (.binOp .eql 24 (.tmp 0) (.const (.int .i64 0)) 24) 4) (.cond (.tmp 0) (.op (O (.call ⟨(.value (.func 23)), #[(.tmp 19)], #[47]⟩) 3) (.op (O (.binOp .add 3 (.tmp 16) (.const (.int .i64 1)) 3) 3) (.back 0 [(.tmp 16), (.tmp 0)]))) (.op (O (.assign (.const (.bool .true))) 4) (.op (O (.binOp .add 3 (.tmp 16) (.const (.int .i64 1)) 3) 3) (.back 0 [(.tmp 1), (.tmp 0)])))))) (.op (O (.indexAddr 45 (.tmp 37) (.tmp 13)) 0) (.op (O (.fieldAddr 55 (.tmp 0) 0) 0) (.op (O (.load 3 (.tmp 0)) 3) (.op (O (.binOp .geq 3 (.tmp 0) (.const (.int .i64 1)) 3) 4) (.gop (.tmp 0) .true (O (.move (.tmp 41)) 45) (.gop (.tmp 1) .true (O (.move (.tmp 18)) 3) (.gop (.tmp 2) .true (O (.indexAddr 45 (.tmp 1) (.tmp 0)) 0) (.gop (.tmp 3) .true (O (.fieldAddr 55 (.tmp 0) 0) 0) (.gop (.tmp 4) .true (O (.load 3 (.tmp 0)) 3) (.gop (.tmp 5) .true (O (.binOp .leq 3 (.tmp 0) (.const (.int .i64 6)) 3) 4) (.op (O (.pick (.tmp 6) (.tmp 0) (.const (.bool .false))) 4) (.cond (.tmp 0) (.op (O (.indexAddr 45 (.tmp 48) (.tmp 24)) 0) (.op (O (.load 55 (.tmp 0)) 55) (.op (O (.call ⟨(.value (.func 21)), #[(.tmp 40), (.tmp 37), (.tmp 30), (.tmp 0)], #[23, 27, 47, 55]⟩) 52) (.op (O (.extract (.tmp 0) 0) 27) (.op (O (.extract (.tmp 1) 1) 4) (.op (O (.unOp .not 4 (.tmp 0)) 4) (.cond (.tmp 0) (.op (O (.assign (.const (.bool .false))) 4) (.ret [(.tmp 0)])) (.op (O (.binOp .add 3 (.tmp 30) (.const (.int .i64 1)) 3) 3) (.back 0 [(.tmp 30), (.tmp 0)]))))))))) (.op (O (.binOp .add 3 (.tmp 24) (.const (.int .i64 1)) 3) 3) (.back 0 [(.tmp 24), (.tmp 0)]))))))))))))))))))) (.op (O (.call ⟨(.value (.func 24)), #[(.tmp 23), (.tmp 35)], #[23, 3]⟩) 0) (.op (O (.call ⟨(.value (.func 10)), #[(.tmp 24), (.const (.string { data := #[112, 97, 103, 101, 115] }))], #[23, 9]⟩) 28) (.op (O (.extract (.tmp 0) 0) 27) (.op (O (.extract (.tmp 1) 1) 24) (.op (O (.binOp .neq 24 (.tmp 0) (.const (.int .i64 0)) 24) 4) (.gop (.tmp 0) .false (O (.move (.tmp 2)) 27) (.gop (.tmp 1) .false (O (.binOp .eql 27 (.tmp 0) (.const (.pointer Option.none)) 27) 4) (.op (O (.pick (.tmp 2) (.const (.bool .true)) (.tmp 0)) 4) (.cond (.tmp 0) (.op (O (.assign (.const (.bool .false))) 4) (.ret [(.tmp 0)])) (.op (O (.nilCheck (.tmp 21)) 0) (.op (O (.fieldAddr 51 (.tmp 0) 1) 0) (.op (O (.load 48 (.tmp 0)) 48) (.op (O (.call ⟨(.value (.func 22)), #[(.tmp 8), (.tmp 0), (.const (.int .i64 (-1)))], #[27, 48, 3]⟩) 4) (.gop (.tmp 0) .false (O (.move (.tmp 20)) 4) (.gop (.tmp 1) .false (O (.move (.tmp 0)) 4) (.gop (.tmp 0) .true (O (.move (.tmp 11)) 27) (.gop (.tmp 1) .true (O (.move (.tmp 28)) 47) (.gop (.tmp 2) .true (O (.nilCheck (.tmp 0)) 0) (.gop (.tmp 3) .true (O (.fieldAddr 51 (.tmp 0) 0) 0) (.gop (.tmp 4) .true (O (.load 48 (.tmp 0)) 48) (.gop (.tmp 5) .true (O (.call ⟨(.value (.func 22)), #[(.tmp 4), (.tmp 0), (.const (.int .i64 (-1)))], #[27, 48, 3]⟩) 4) (.gop (.tmp 8) .false (O (.pick (.tmp 6) (.tmp 0) (.const (.bool .false))) 4) (.op (O (.pick (.tmp 9) (.const (.bool .true)) (.tmp 0)) 4) (.gop (.tmp 0) .true (O (.call ⟨(.value (.func 8)), #[], #[]⟩) 4) (.op (O (.pick (.tmp 1) (.tmp 0) (.const (.bool .false))) 4) (.ret [(.tmp 0)])))))))))))))))))))))))))))))))))))))))))))))))))))))))))))))
def H7 : List (Nat × Nat) := [(0, 99), (1, 99), (2, 99), (3, 99), (4, 99), (5, 99), (6, 99), (7, 99), (8, 99), (9, 99), (10, 99), (11, 99), (12, 99), (13, 99), (14, 99), (15, 99), (16, 99), (17, 99), (18, 99), (19, 99), (20, 99), (21, 99), (22, 99), (23, 99), (24, 99), (25, 99), (26, 99), (27, 99), (28, 99), (29, 99), (30, 99), (31, 99), (32, 99), (33, 99), (34, 99), (35, 99), (36, 99), (37, 99), (38, 99), (39, 99), (40, 99), (41, 99), (42, 99), (43, 99), (44, 99), (45, 99), (46, 99), (47, 99), (48, 99), (49, 99), (50, 99), (51, 99), (52, 99), (53, 99), (54, 99), (55, 99), (56, 99), (57, 99), (58, 99), (59, 99)]
theorem T7_ok : tree H7 Tryz.f7 3 = some T7 := by kernel_rfl
def T15 : Tree := (.op (O (.binOp .neq 23 (.tmp 0) (.const (.pointer Option.none)) 23) 4) (.cond (.tmp 0) (.op (O (.binOp .geq 3 (.tmp 2) (.const (.int .i64 0)) 3) 4) (.op (O (.call ⟨(.builtin .max), #[(.const (.int .i64 0)), (.tmp 3)], #[3, 3]⟩) 3) (.op (O (.nilCheck (.tmp 3)) 0) (.op (O (.fieldAddr 63 (.tmp 0) 4) 0) (.op (O (.store 4 (.tmp 0) (.tmp 3)) 0) (.op (O (.nilCheck (.tmp 6)) 0) (.op (O (.fieldAddr 63 (.tmp 0) 5) 0) (.op (O (.store 3 (.tmp 0) (.tmp 5)) 0) (.ret []))))))))) (.ret [])))
def H15 : List (Nat × Nat) := []
theorem T15_ok : tree H15 Tryz.f15 2 = some T15 := by kernel_rfl
def T23 : Tree := (.op (O (.assign (.const (.int .i64 0))) 3) (.op (O (.nilCheck (.tmp 1)) 0) (.op (O (.fieldAddr 51 (.tmp 0) 0) 0) (.op (O (.load 48 (.tmp 0)) 48) (.op (O (.call ⟨(.value (.func 53)), #[(.tmp 0)], #[48]⟩) 48) (.op (O (.nilCheck (.tmp 5)) 0) (.op (O (.fieldAddr 51 (.tmp 0) 1) 0) (.op (O (.store 48 (.tmp 0) (.tmp 2)) 0) (.op (O (.nilCheck (.tmp 8)) 0) (.op (O (.fieldAddr 51 (.tmp 0) 2) 0) (.op (O (.store 49 (.tmp 0) (.const (.slice Option.none 0 0))) 0) (.op (O (.assign (.const (.int .i64 0))) 3) (.ret [(.tmp 0)])))))))))))))
def H23 : List (Nat × Nat) := [(0, 99), (1, 99), (2, 99), (3, 99), (4, 99), (5, 99), (6, 99), (7, 99), (8, 99), (9, 99), (10, 99), (11, 99), (12, 99), (13, 99), (14, 99), (15, 99), (16, 99), (17, 99), (18, 99), (19, 99), (20, 99), (21, 99), (22, 99), (23, 99), (24, 99), (25, 99), (26, 99), (27, 99), (28, 99), (29, 99), (30, 99), (31, 99), (32, 99), (33, 99), (34, 99), (35, 99), (36, 99), (37, 99), (38, 99), (39, 99), (40, 99), (41, 99), (42, 99), (43, 99), (44, 99), (45, 99), (46, 99), (47, 99), (48, 99), (49, 99), (50, 99), (51, 99), (52, 99), (53, 99), (54, 99), (55, 99), (56, 99), (57, 99), (58, 99), (59, 99)]
theorem T23_ok : tree H23 Tryz.f23 1 = some T23 := by kernel_rfl
def T31 : Tree := (.op (O (.assign (.const (.bool .false))) 4) (.op (O (.call ⟨(.value (.func 30)), #[(.tmp 2)], #[33]⟩) 83) (.op (O (.extract (.tmp 0) 0) 64) (.op (O (.extract (.tmp 1) 1) 3) (.op (O (.binOp .leq 3 (.tmp 0) (.const (.int .i64 0)) 3) 4) (.gop (.tmp 0) .false (O (.move (.tmp 2)) 64) (.gop (.tmp 1) .false (O (.binOp .geq 64 (.tmp 0) (.const (.int .u64 16384)) 64) 4) (.op (O (.pick (.tmp 2) (.const (.bool .true)) (.tmp 0)) 4) (.gop (.tmp 0) .false (O (.move (.tmp 9)) 33) (.gop (.tmp 1) .false (O (.call ⟨(.builtin .len), #[(.tmp 0)], #[33]⟩) 3) (.gop (.tmp 2) .false (O (.move (.tmp 6)) 3) (.gop (.tmp 3) .false (O (.binOp .leq 3 (.tmp 1) (.tmp 0) 3) 4) (.op (O (.pick (.tmp 4) (.const (.bool .true)) (.tmp 0)) 4) (.gop (.tmp 0) .false (O (.move (.tmp 14)) 33) (.gop (.tmp 1) .false (O (.move (.tmp 10)) 3) (.gop (.tmp 2) .false (O (.indexAddr 33 (.tmp 1) (.tmp 0)) 0) (.gop (.tmp 3) .false (O (.load 5 (.tmp 0)) 5) (.gop (.tmp 4) .false (O (.binOp .gtr 5 (.tmp 0) (.const (.int .u8 1)) 5) 4) (.op (O (.pick (.tmp 5) (.const (.bool .true)) (.tmp 0)) 4) (.cond (.tmp 0) (.op (O (.assign (.const (.bool .false))) 4) (.ret [(.tmp 0)])) (.loop [] (.op (O (.nilCheck (.tmp 19)) 0) (.op (O (.fieldAddr 78 (.tmp 0) 4) 0) (.op (O (.load 69 (.tmp 0)) 69) (.op (O (.call ⟨(.builtin .len), #[(.tmp 0)], #[69]⟩) 3) (.op (O (.convert 3 64 (.tmp 0)) 64) (.op (O (.binOp .leq 64 (.tmp 0) (.tmp 21) 64) 4) (.cond (.tmp 0) (.op (O (.nilCheck (.tmp 25)) 0) (.op (O (.fieldAddr 78 (.tmp 0) 4) 0) (.op (O (.load 69 (.tmp 0)) 69) (.op (O (.build 92 #[]) 92) (.op (O (.buildSlice 69 1 #[(0, (.tmp 0))]) 69) (.op (O (.call ⟨(.builtin .append), #[(.tmp 2), (.tmp 0)], #[69, 69]⟩) 69) (.op (O (.nilCheck (.tmp 31)) 0) (.op (O (.fieldAddr 78 (.tmp 0) 4) 0) (.op (O (.store 69 (.tmp 0) (.tmp 2)) 0) (.back 0 [])))))))))) (.mix (.mq none (O (.nilCheck (.tmp 25)) 0) (.mq none (O (.fieldAddr 78 (.tmp 0) 4) 0) (.mq none (O (.load 69 (.tmp 0)) 69) (.mq none (O (.indexAddr 33 (.tmp 29) (.tmp 24)) 0) (.mq none (O (.load 5 (.tmp 0)) 5) (.mq none (O (.binOp .eql 5 (.tmp 0) (.const (.int .u8 1)) 5) 4) (.mq none (O (.binOp .add 3 (.tmp 27) (.const (.int .i64 1)) 3) 3) (.mq none (O (.slice 33 (.tmp 33) (some (.tmp 0)) none none) 33) (.op (O (.call ⟨(.value (.func 39)), #[(.tmp 0)], #[33]⟩) 33) (.mD (.mq none (O (.build 92 #[(0, (.tmp 3)), (1, (.tmp 0))]) 92) (.mq none (O (.indexAddr 69 (.tmp 7) (.tmp 32)) 0) (.op (O (.store 92 (.tmp 0) (.tmp 1)) 0) (.mR (.mend (.op (O (.assign (.const (.bool .true))) 4) (.ret [(.tmp 0)]))))))))))))))))))))))))))))))))))))))))))))))
def H31 : List (Nat × Nat) := [(0, 99), (1, 99), (2, 99), (3, 99), (4, 99), (5, 99), (6, 99), (7, 99), (8, 99), (9, 99), (10, 99), (11, 99), (12, 99), (13, 99), (14, 99), (15, 99), (16, 99), (17, 99), (18, 99), (19, 99), (20, 99), (21, 99), (22, 99), (23, 99), (24, 99), (25, 99), (26, 99), (27, 99), (28, 99), (29, 99), (30, 99), (31, 99), (32, 99), (33, 99), (34, 99), (35, 99), (36, 99), (37, 99), (38, 99), (39, 99), (40, 99), (41, 99), (42, 99), (43, 99), (44, 99), (45, 99), (46, 99), (47, 99), (48, 99), (49, 99), (50, 99), (51, 99), (52, 99), (53, 99), (54, 99), (55, 99), (56, 99), (57, 99), (58, 99), (59, 99)]
theorem T31_ok : tree H31 Tryz.f31 2 = some T31 := by kernel_rfl
def T39 : Tree := (.op (O (.assign (.const (.slice Option.none 0 0))) 33) (.op (O (.binOp .eql 33 (.tmp 1) (.const (.slice Option.none 0 0)) 33) 4) (.cond (.tmp 0) (.op (O (.assign (.const (.slice Option.none 0 0))) 33) (.ret [(.tmp 0)])) (.op (O (.buildSlice 33 0 #[]) 33) (.op (O (.call ⟨(.builtin .append), #[(.tmp 0), (.tmp 3)], #[33, 33]⟩) 33) (.ret [(.tmp 0)]))))))
def H39 : List (Nat × Nat) := []
theorem T39_ok : tree H39 Tryz.f39 1 = some T39 := by kernel_rfl
def T47 : Tree := (.op (O (.assign (.const (.slice Option.none 0 0))) 33) (.op (O (.buildSlice 33 0 #[]) 33) (.op (O (.call ⟨(.builtin .append), #[(.tmp 0), (.tmp 2)], #[33, 33]⟩) 33) (.op (O (.buildSlice 33 1 #[(0, (.const (.int .u8 171)))]) 33) (.op (O (.call ⟨(.builtin .append), #[(.tmp 1), (.tmp 0)], #[33, 33]⟩) 33) (.op (O (.buildSlice 33 1 #[(0, (.const (.int .u8 171)))]) 33) (.op (O (.call ⟨(.builtin .append), #[(.tmp 1), (.tmp 0)], #[33, 33]⟩) 33) (.op (O (.call ⟨(.builtin .len), #[(.tmp 7)], #[33]⟩) 3) (.op (O (.binOp .add 3 (.tmp 0) (.const (.int .i64 1)) 3) 3) (.op (O (.slice 33 (.tmp 2) none (some (.tmp 0)) none) 33) (.ret [(.tmp 0)])))))))))))
def H47 : List (Nat × Nat) := []
theorem T47_ok : tree H47 Tryz.f47 1 = some T47 := by kernel_rfl
def T55 : Tree := (.op (O (.nilCheck (.tmp 0)) 0) (.op (O (.fieldAddr 63 (.tmp 0) 3) 0) (.op (O (.load 61 (.tmp 0)) 61) (.op (O (.slice 61 (.tmp 0) none (some (.tmp 4)) none) 61) (.op (O (.call ⟨(.builtin .len), #[(.tmp 0)], #[61]⟩) 3) (.op (O (.move (.const (.int .i64 0))) 3) (.loop [(.tmp 0)] (.op (O (.binOp .lss 3 (.tmp 0) (.tmp 2) 3) 0) (.cond (.tmp 0) (.op (O (.indexAddr 61 (.tmp 4) (.tmp 1)) 0) (.op (O (.load 153 (.tmp 0)) 153) (.op (O (.nilCheck (.tmp 10)) 0) (.op (O (.fieldAddr 63 (.tmp 0) 1) 0) (.op (O (.load 59 (.tmp 0)) 59) (.op (O (.call ⟨(.value (.tmp 3)), #[(.tmp 0)], #[59]⟩) 0) (.op (O (.binOp .add 3 (.tmp 7) (.const (.int .i64 1)) 3) 3) (.back 0 [(.tmp 0)])))))))) (.op (O (.nilCheck (.tmp 8)) 0) (.op (O (.fieldAddr 63 (.tmp 0) 3) 0) (.op (O (.store 61 (.tmp 0) (.const (.slice Option.none 0 0))) 0) (.ret [])))))))))))))
def H55 : List (Nat × Nat) := []
theorem T55_ok : tree H55 Tryz.f55 2 = some T55 := by kernel_rfl
def T63 : Tree := (.op (O (.assign (.const (.int .u64 0))) 64) (.op (O (.buildSlice 33 17 #[(0, (.const (.int .u8 112))), (1, (.const (.int .u8 97))), (2, (.const (.int .u8 110))), (3, (.const (.int .u8 116))), (4, (.const (.int .u8 114))), (5, (.const (.int .u8 121))), (6, (.const (.int .u8 32))), (7, (.const (.int .u8 106))), (8, (.const (.int .u8 111))), (9, (.const (.int .u8 117))), (10, (.const (.int .u8 114))), (11, (.const (.int .u8 110))), (12, (.const (.int .u8 97))), (13, (.const (.int .u8 108))), (14, (.const (.int .u8 32))), (15, (.const (.int .u8 49))), (16, (.const (.int .u8 10)))]) 33) (.op (O (.convert 33 33 (.tmp 0)) 33) (.op (O (.call ⟨(.value (.func 57)), #[(.tmp 3), (.tmp 0)], #[33, 33]⟩) 115) (.op (O (.extract (.tmp 0) 0) 33) (.op (O (.extract (.tmp 1) 1) 4) (.op (O (.call ⟨(.value (.func 88)), #[(.tmp 1)], #[33]⟩) 83) (.op (O (.extract (.tmp 0) 0) 64) (.op (O (.extract (.tmp 1) 1) 3) (.op (O (.unOp .not 4 (.tmp 3)) 4) (.gop (.tmp 0) .false (O (.move (.tmp 1)) 3) (.gop (.tmp 1) .false (O (.binOp .leq 3 (.tmp 0) (.const (.int .i64 0)) 3) 4) (.op (O (.pick (.tmp 2) (.const (.bool .true)) (.tmp 0)) 4) (.gop (.tmp 0) .false (O (.move (.tmp 13)) 33) (.gop (.tmp 1) .false (O (.move (.tmp 6)) 64) (.gop (.tmp 2) .false (O (.call ⟨(.value (.func 89)), #[(.tmp 0)], #[64]⟩) 33) (.gop (.tmp 3) .false (O (.call ⟨(.value (.func 59)), #[(.tmp 2), (.tmp 0)], #[33, 33]⟩) 4) (.gop (.tmp 4) .false (O (.unOp .not 4 (.tmp 0)) 4) (.op (O (.pick (.tmp 5) (.const (.bool .true)) (.tmp 0)) 4) (.cond (.tmp 0) (.op (O (.assign (.const (.int .u64 0))) 64) (.ret [(.tmp 0)])) (.ret [(.tmp 11)])))))))))))))))))))))
def H63 : List (Nat × Nat) := []
theorem T63_ok : tree H63 Tryz.f63 1 = some T63 := by kernel_rfl
def T71 : Tree := (.op (O (.assign (.const (.int .i64 0))) 24) (.op (O (.call ⟨(.value (.func 92)), #[(.tmp 1)], #[68]⟩) 24) (.op (O (.binOp .neq 24 (.tmp 0) (.const (.int .i64 0)) 24) 4) (.gop (.tmp 0) .false (O (.move (.tmp 3)) 68) (.gop (.tmp 1) .false (O (.nilCheck (.tmp 0)) 0) (.gop (.tmp 2) .false (O (.fieldAddr 136 (.tmp 0) 7) 0) (.gop (.tmp 3) .false (O (.load 121 (.tmp 0)) 121) (.gop (.tmp 4) .false (O (.nilCheck (.tmp 0)) 0) (.gop (.tmp 5) .false (O (.fieldAddr 133 (.tmp 0) 0) 0) (.gop (.tmp 6) .false (O (.load 90 (.tmp 0)) 90) (.gop (.tmp 7) .false (O (.call ⟨(.builtin .len), #[(.tmp 0)], #[90]⟩) 3) (.gop (.tmp 8) .false (O (.binOp .eql 3 (.tmp 0) (.const (.int .i64 0)) 3) 4) (.op (O (.pick (.tmp 9) (.const (.bool .true)) (.tmp 0)) 4) (.cond (.tmp 0) (.ret [(.tmp 11)]) (.op (O (.nilCheck (.tmp 13)) 0) (.op (O (.fieldAddr 136 (.tmp 0) 6) 0) (.op (O (.load 3 (.tmp 0)) 3) (.op (O (.binOp .geq 3 (.tmp 0) (.const (.int .i64 524288)) 3) 4) (.cond (.tmp 0) (.op (O (.assign (.const (.int .i64 6))) 24) (.ret [(.tmp 0)])) (.mix (.mq none (O (.nilCheck (.tmp 17)) 0) (.mq none (O (.fieldAddr 136 (.tmp 0) 7) 0) (.mq none (O (.load 121 (.tmp 0)) 121) (.mq none (O (.nilCheck (.tmp 0)) 0) (.mq none (O (.fieldAddr 133 (.tmp 0) 0) 0) (.mq none (O (.load 90 (.tmp 0)) 90) (.mq none (O (.nilCheck (.tmp 23)) 0) (.mq none (O (.fieldAddr 136 (.tmp 0) 7) 0) (.mq none (O (.load 121 (.tmp 0)) 121) (.mq none (O (.nilCheck (.tmp 0)) 0) (.mq none (O (.fieldAddr 133 (.tmp 0) 1) 0) (.mq none (O (.load 3 (.tmp 0)) 3) (.mq none (O (.build 133 #[(0, (.tmp 6)), (1, (.tmp 0))]) 133) (.op (O (.box 133 (.tmp 0)) 121) (.mR (.mend (.op (O (.call ⟨(.value (.func 93)), #[(.tmp 0)], #[121]⟩) 33) (.mix (.mq none (O (.nilCheck (.tmp 32)) 0) (.mq none (O (.fieldAddr 136 (.tmp 0) 3) 0) (.mq none (O (.load 3 (.tmp 0)) 3) (.mq none (O (.nilCheck (.tmp 35)) 0) (.mq none (O (.fieldAddr 136 (.tmp 0) 4) 0) (.mq none (O (.load 3 (.tmp 0)) 3) (.mend (.op (O (.assign (.const (.int .i64 0))) 24) (.op (O (.binOp .lss 3 (.tmp 1) (.const (.int .i64 0)) 3) 4) (.cond (.tmp 0) (.mix (.mq none (O (.nilCheck (.tmp 40)) 0) (.mq none (O (.fieldAddr 136 (.tmp 0) 0) 0) (.mq none (O (.load 23 (.tmp 0)) 23) (.op (O (.call ⟨(.value (.func 64)), #[(.tmp 43), (.tmp 8)], #[68, 3]⟩) 9) (.mD (.op (O (.call ⟨(.value (.func 75)), #[(.tmp 1), (.tmp 0), (.tmp 12)], #[23, 9, 33]⟩) 24) (.mR (.mend (.op (O (.assign (.const (.int .i64 0))) 3) (.op (O (.binOp .neq 24 (.tmp 1) (.const (.int .i64 0)) 24) 4) (.cond (.tmp 0) (.op (O (.call ⟨(.value (.func 95)), #[(.tmp 47), (.tmp 2)], #[68, 24]⟩) 24) (.ret [(.tmp 0)])) (.op (O (.call ⟨(.builtin .len), #[(.tmp 15)], #[33]⟩) 3) (.op (O (.binOp .add 3 (.tmp 2) (.tmp 0) 3) 3) (.op (O (.nilCheck (.tmp 49)) 0) (.op (O (.fieldAddr 136 (.tmp 0) 3) 0) (.op (O (.store 3 (.tmp 0) (.tmp 16)) 0) (.op (O (.nilCheck (.tmp 52)) 0) (.op (O (.fieldAddr 136 (.tmp 0) 4) 0) (.op (O (.store 3 (.tmp 0) (.tmp 5)) 0) (.op (O (.nilCheck (.tmp 55)) 0) (.op (O (.fieldAddr 136 (.tmp 0) 0) 0) (.op (O (.load 23 (.tmp 0)) 23) (.op (O (.call ⟨(.value (.func 78)), #[(.tmp 0)], #[23]⟩) 24) (.op (O (.binOp .neq 24 (.tmp 0) (.const (.int .i64 0)) 24) 4) (.cond (.tmp 0) (.op (O (.call ⟨(.value (.func 95)), #[(.tmp 60), (.tmp 1)], #[68, 24]⟩) 24) (.ret [(.tmp 0)])) (.op (O (.nilCheck (.tmp 60)) 0) (.op (O (.fieldAddr 136 (.tmp 0) 5) 0) (.op (O (.load 134 (.tmp 0)) 134) (.op (O (.buildSlice 134 1 #[(0, (.tmp 32))]) 134) (.op (O (.call ⟨(.builtin .append), #[(.tmp 1), (.tmp 0)], #[134, 134]⟩) 134) (.op (O (.nilCheck (.tmp 65)) 0) (.op (O (.fieldAddr 136 (.tmp 0) 5) 0) (.op (O (.store 134 (.tmp 0) (.tmp 2)) 0) (.mix (.mq none (O (.nilCheck (.tmp 68)) 0) (.mq none (O (.fieldAddr 136 (.tmp 0) 6) 0) (.mq none (O (.load 3 (.tmp 0)) 3) (.mq none (O (.nilCheck (.tmp 40)) 0) (.mq none (O (.fieldAddr 133 (.tmp 0) 1) 0) (.mq none (O (.load 3 (.tmp 0)) 3) (.mq none (O (.binOp .add 3 (.tmp 3) (.tmp 0) 3) 3) (.mq none (O (.nilCheck (.tmp 75)) 0) (.mq none (O (.fieldAddr 136 (.tmp 0) 6) 0) (.op (O (.store 3 (.tmp 0) (.tmp 2)) 0) (.mR (.mend (.op (O (.build 133 #[]) 133) (.op (O (.box 133 (.tmp 0)) 121) (.op (O (.nilCheck (.tmp 80)) 0) (.op (O (.fieldAddr 136 (.tmp 0) 7) 0) (.op (O (.store 121 (.tmp 0) (.tmp 2)) 0) (.op (O (.assign (.const (.int .i64 0))) 24) (.ret [(.tmp 0)])))))))))))))))))))))))))))))))))))))))))))))))))))))) (.op (O (.call ⟨(.builtin .len), #[(.tmp 8)], #[33]⟩) 3) (.op (O (.binOp .add 3 (.tmp 3) (.tmp 0) 3) 3) (.op (O (.binOp .gtr 3 (.tmp 0) (.const (.int .i64 1048576)) 3) 4) (.cond (.tmp 0) (.op (O (.binOp .add 3 (.tmp 8) (.const (.int .i64 1)) 3) 3) (.op (O (.assign (.const (.int .i64 0))) 3) (.mix (.mq none (O (.nilCheck (.tmp 45)) 0) (.mq none (O (.fieldAddr 136 (.tmp 0) 0) 0) (.mq none (O (.load 23 (.tmp 0)) 23) (.op (O (.call ⟨(.value (.func 64)), #[(.tmp 48), (.tmp 4)], #[68, 3]⟩) 9) (.mD (.op (O (.call ⟨(.value (.func 75)), #[(.tmp 1), (.tmp 0), (.tmp 17)], #[23, 9, 33]⟩) 24) (.mR (.mend (.op (O (.binOp .neq 24 (.tmp 0) (.const (.int .i64 0)) 24) 4) (.cond (.tmp 0) (.op (O (.call ⟨(.value (.func 95)), #[(.tmp 51), (.tmp 1)], #[68, 24]⟩) 24) (.ret [(.tmp 0)])) (.op (O (.call ⟨(.builtin .len), #[(.tmp 19)], #[33]⟩) 3) (.op (O (.binOp .add 3 (.tmp 7) (.tmp 0) 3) 3) (.op (O (.nilCheck (.tmp 53)) 0) (.op (O (.fieldAddr 136 (.tmp 0) 3) 0) (.op (O (.store 3 (.tmp 0) (.tmp 11)) 0) (.op (O (.nilCheck (.tmp 56)) 0) (.op (O (.fieldAddr 136 (.tmp 0) 4) 0) (.op (O (.store 3 (.tmp 0) (.tmp 5)) 0) (.op (O (.nilCheck (.tmp 59)) 0) (.op (O (.fieldAddr 136 (.tmp 0) 0) 0) (.op (O (.load 23 (.tmp 0)) 23) (.op (O (.call ⟨(.value (.func 78)), #[(.tmp 0)], #[23]⟩) 24) (.op (O (.binOp .neq 24 (.tmp 0) (.const (.int .i64 0)) 24) 4) (.cond (.tmp 0) (.op (O (.call ⟨(.value (.func 95)), #[(.tmp 64), (.tmp 1)], #[68, 24]⟩) 24) (.ret [(.tmp 0)])) (.op (O (.nilCheck (.tmp 64)) 0) (.op (O (.fieldAddr 136 (.tmp 0) 5) 0) (.op (O (.load 134 (.tmp 0)) 134) (.op (O (.buildSlice 134 1 #[(0, (.tmp 36))]) 134) (.op (O (.call ⟨(.builtin .append), #[(.tmp 1), (.tmp 0)], #[134, 134]⟩) 134) (.op (O (.nilCheck (.tmp 69)) 0) (.op (O (.fieldAddr 136 (.tmp 0) 5) 0) (.op (O (.store 134 (.tmp 0) (.tmp 2)) 0) (.mix (.mq none (O (.nilCheck (.tmp 72)) 0) (.mq none (O (.fieldAddr 136 (.tmp 0) 6) 0) (.mq none (O (.load 3 (.tmp 0)) 3) (.mq none (O (.nilCheck (.tmp 44)) 0) (.mq none (O (.fieldAddr 133 (.tmp 0) 1) 0) (.mq none (O (.load 3 (.tmp 0)) 3) (.mq none (O (.binOp .add 3 (.tmp 3) (.tmp 0) 3) 3) (.mq none (O (.nilCheck (.tmp 79)) 0) (.mq none (O (.fieldAddr 136 (.tmp 0) 6) 0) (.op (O (.store 3 (.tmp 0) (.tmp 2)) 0) (.mR (.mend (.op (O (.build 133 #[]) 133) (.op (O (.box 133 (.tmp 0)) 121) (.op (O (.nilCheck (.tmp 84)) 0) (.op (O (.fieldAddr 136 (.tmp 0) 7) 0) (.op (O (.store 121 (.tmp 0) (.tmp 2)) 0) (.op (O (.assign (.const (.int .i64 0))) 24) (.ret [(.tmp 0)]))))))))))))))))))))))))))))))))))))))))))))))))))))))) (.mix (.mq none (O (.nilCheck (.tmp 43)) 0) (.mq none (O (.fieldAddr 136 (.tmp 0) 0) 0) (.mq none (O (.load 23 (.tmp 0)) 23) (.op (O (.call ⟨(.value (.func 64)), #[(.tmp 46), (.tmp 11)], #[68, 3]⟩) 9) (.mD (.op (O (.call ⟨(.value (.func 94)), #[(.tmp 1), (.tmp 0), (.tmp 15)], #[23, 9, 33]⟩) 24) (.mR (.mend (.op (O (.binOp .neq 24 (.tmp 0) (.const (.int .i64 0)) 24) 4) (.cond (.tmp 0) (.op (O (.call ⟨(.value (.func 95)), #[(.tmp 49), (.tmp 1)], #[68, 24]⟩) 24) (.ret [(.tmp 0)])) (.op (O (.call ⟨(.builtin .len), #[(.tmp 17)], #[33]⟩) 3) (.op (O (.binOp .add 3 (.tmp 12) (.tmp 0) 3) 3) (.op (O (.nilCheck (.tmp 51)) 0) (.op (O (.fieldAddr 136 (.tmp 0) 3) 0) (.op (O (.store 3 (.tmp 0) (.tmp 18)) 0) (.op (O (.nilCheck (.tmp 54)) 0) (.op (O (.fieldAddr 136 (.tmp 0) 4) 0) (.op (O (.store 3 (.tmp 0) (.tmp 5)) 0) (.op (O (.nilCheck (.tmp 57)) 0) (.op (O (.fieldAddr 136 (.tmp 0) 0) 0) (.op (O (.load 23 (.tmp 0)) 23) (.op (O (.call ⟨(.value (.func 78)), #[(.tmp 0)], #[23]⟩) 24) (.op (O (.binOp .neq 24 (.tmp 0) (.const (.int .i64 0)) 24) 4) (.cond (.tmp 0) (.op (O (.call ⟨(.value (.func 95)), #[(.tmp 62), (.tmp 1)], #[68, 24]⟩) 24) (.ret [(.tmp 0)])) (.op (O (.nilCheck (.tmp 62)) 0) (.op (O (.fieldAddr 136 (.tmp 0) 5) 0) (.op (O (.load 134 (.tmp 0)) 134) (.op (O (.buildSlice 134 1 #[(0, (.tmp 34))]) 134) (.op (O (.call ⟨(.builtin .append), #[(.tmp 1), (.tmp 0)], #[134, 134]⟩) 134) (.op (O (.nilCheck (.tmp 67)) 0) (.op (O (.fieldAddr 136 (.tmp 0) 5) 0) (.op (O (.store 134 (.tmp 0) (.tmp 2)) 0) (.mix (.mq none (O (.nilCheck (.tmp 70)) 0) (.mq none (O (.fieldAddr 136 (.tmp 0) 6) 0) (.mq none (O (.load 3 (.tmp 0)) 3) (.mq none (O (.nilCheck (.tmp 42)) 0) (.mq none (O (.fieldAddr 133 (.tmp 0) 1) 0) (.mq none (O (.load 3 (.tmp 0)) 3) (.mq none (O (.binOp .add 3 (.tmp 3) (.tmp 0) 3) 3) (.mq none (O (.nilCheck (.tmp 77)) 0) (.mq none (O (.fieldAddr 136 (.tmp 0) 6) 0) (.op (O (.store 3 (.tmp 0) (.tmp 2)) 0) (.mR (.mend (.op (O (.build 133 #[]) 133) (.op (O (.box 133 (.tmp 0)) 121) (.op (O (.nilCheck (.tmp 82)) 0) (.op (O (.fieldAddr 136 (.tmp 0) 7) 0) (.op (O (.store 121 (.tmp 0) (.tmp 2)) 0) (.op (O (.assign (.const (.int .i64 0))) 24) (.ret [(.tmp 0)])))))))))))))))))))))))))))))))))))))))))))))))))))))))))))))))))))))))))))))))))))))))))))))))))))))))))
def H71 : List (Nat × Nat) := [(0, 99), (1, 99), (2, 99), (3, 99), (4, 99), (5, 99), (6, 99), (7, 99), (8, 99), (9, 99), (10, 99), (11, 99), (12, 99), (13, 99), (14, 99), (15, 99), (16, 99), (17, 99), (18, 99), (19, 99), (20, 99), (21, 99), (22, 99), (23, 99), (24, 99), (25, 99), (26, 99), (27, 99), (28, 99), (29, 99), (30, 99), (31, 99), (32, 99), (33, 99), (34, 99), (35, 99), (36, 99), (37, 99), (38, 99), (39, 99), (40, 99), (41, 99), (42, 99), (43, 99), (44, 99), (45, 99), (46, 99), (47, 99), (48, 99), (49, 99), (50, 99), (51, 99), (52, 99), (53, 99), (54, 99), (55, 99), (56, 99), (57, 99), (58, 99), (59, 99)]
theorem T71_ok : tree H71 Tryz.f71 1 = some T71 := by kernel_rfl
def T87 : Tree := (.op (O (.assign (.const (.string { data := #[] }))) 9) (.op (O (.binOp .eql 3 (.tmp 2) (.const (.int .i64 10)) 3) 4) (.cond (.tmp 0) (.op (O (.binOp .lss 64 (.tmp 2) (.const (.int .u64 100)) 64) 4) (.cond (.tmp 0) (.op (O (.convert 64 3 (.tmp 3)) 3) (.op (O (.call ⟨(.value (.func 111)), #[(.tmp 0)], #[3]⟩) 9) (.ret [(.tmp 0)]))) (.op (O (.alloc 180) 0) (.op (O (.call ⟨(.value (.func 112)), #[(.tmp 4)], #[64]⟩) 3) (.op (O (.slice 180 (.tmp 1) none (some (.tmp 0)) none) 33) (.op (O (.call ⟨(.value (.func 113)), #[(.tmp 0), (.tmp 6)], #[33, 64]⟩) 0) (.op (O (.slice 180 (.tmp 3) none (some (.tmp 2)) none) 33) (.op (O (.convert 33 9 (.tmp 0)) 9) (.ret [(.tmp 0)]))))))))) (.op (O (.call ⟨(.value (.func 114)), #[(.const (.slice Option.none 0 0)), (.tmp 2), (.tmp 3), (.const (.bool .false)), (.const (.bool .false))], #[33, 64, 3, 4, 4]⟩) 182) (.op (O (.extract (.tmp 0) 0) 33) (.op (O (.extract (.tmp 1) 1) 9) (.ret [(.tmp 0)])))))))
def H87 : List (Nat × Nat) := []
theorem T87_ok : tree H87 Tryz.f87 2 = some T87 := by kernel_rfl
def T95 : Tree := (.op (O (.assign (.const (.int .i64 0))) 24) (.op (O (.binOp .neq 24 (.tmp 2) (.const (.int .i64 0)) 24) 4) (.gop (.tmp 0) .true (O (.move (.tmp 3)) 24) (.gop (.tmp 1) .true (O (.binOp .neq 24 (.tmp 0) (.const (.int .i64 6)) 24) 4) (.op (O (.pick (.tmp 2) (.tmp 0) (.const (.bool .false))) 4) (.cond (.tmp 0) (.op (O (.nilCheck (.tmp 5)) 0) (.op (O (.fieldAddr 136 (.tmp 0) 8) 0) (.op (O (.call ⟨(.value (.func 120)), #[(.tmp 0), (.const (.bool .true))], #[125, 4]⟩) 0) (.ret [(.tmp 9)])))) (.ret [(.tmp 6)])))))))
def H95 : List (Nat × Nat) := []
theorem T95_ok : tree H95 Tryz.f95 2 = some T95 := by kernel_rfl
def T111 : Tree := (.op (O (.assign (.const (.string { data := #[] }))) 9) (.op (O (.binOp .lss 3 (.tmp 1) (.const (.int .i64 10)) 3) 4) (.cond (.tmp 0) (.op (O (.binOp .add 3 (.tmp 2) (.const (.int .i64 1)) 3) 3) (.op (O (.slice 9 (.const (.string { data := #[48, 49, 50, 51, 52, 53, 54, 55, 56, 57, 97, 98, 99, 100, 101, 102, 103, 104, 105, 106, 107, 108, 109, 110, 111, 112, 113, 114, 115, 116, 117, 118, 119, 120, 121, 122] })) (some (.tmp 3)) (some (.tmp 0)) none) 9) (.ret [(.tmp 0)]))) (.op (O (.binOp .mul 3 (.tmp 2) (.const (.int .i64 2)) 3) 3) (.op (O (.binOp .mul 3 (.tmp 3) (.const (.int .i64 2)) 3) 3) (.op (O (.binOp .add 3 (.tmp 0) (.const (.int .i64 2)) 3) 3) (.op (O (.slice 9 (.const (.string { data := (([48, 48, 48, 49, 48, 50, 48, 51, 48, 52, 48, 53, 48, 54, 48, 55, 48, 56, 48, 57, 49, 48, 49, 49, 49, 50, 49, 51, 49, 52, 49, 53, 49, 54, 49, 55, 49, 56, 49, 57, 50, 48, 50, 49, 50, 50, 50, 51, 50, 52].append [50, 53, 50, 54, 50, 55, 50, 56, 50, 57, 51, 48, 51, 49, 51, 50, 51, 51, 51, 52, 51, 53, 51, 54, 51, 55, 51, 56, 51, 57, 52, 48, 52, 49, 52, 50, 52, 51, 52, 52, 52, 53, 52, 54, 52, 55, 52, 56, 52, 57]).append ([53, 48, 53, 49, 53, 50, 53, 51, 53, 52, 53, 53, 53, 54, 53, 55, 53, 56, 53, 57, 54, 48, 54, 49, 54, 50, 54, 51, 54, 52, 54, 53, 54, 54, 54, 55, 54, 56, 54, 57, 55, 48, 55, 49, 55, 50, 55, 51, 55, 52].append [55, 53, 55, 54, 55, 55, 55, 56, 55, 57, 56, 48, 56, 49, 56, 50, 56, 51, 56, 52, 56, 53, 56, 54, 56, 55, 56, 56, 56, 57, 57, 48, 57, 49, 57, 50, 57, 51, 57, 52, 57, 53, 57, 54, 57, 55, 57, 56, 57, 57])).toArray })) (some (.tmp 2)) (some (.tmp 0)) none) 9) (.ret [(.tmp 0)]))))))))
def H111 : List (Nat × Nat) := []
theorem T111_ok : tree H111 Tryz.f111 1 = some T111 := by kernel_rfl
def T119 : Tree := (.draw [⟨none, (O (.nilCheck (.tmp 0)) 0)⟩, ⟨none, (O (.fieldAddr 109 (.tmp 0) 0) 0)⟩, ⟨none, (O (.load 107 (.tmp 0)) 107)⟩, ⟨none, (O (.load 9 (.tmp 4)) 9)⟩, ⟨none, (O (.lookup 107 (.tmp 1) (.tmp 0) .false) 110)⟩] (.mix (.mq none (O (.nilCheck (.tmp 0)) 0) (.mq none (O (.fieldAddr 114 (.tmp 0) 0) 0) (.mq none (O (.load 33 (.tmp 0)) 33) (.mq none (O (.load 33 (.tmp 10)) 33) (.op (O (.call ⟨(.builtin .append), #[(.tmp 1), (.tmp 0)], #[33, 33]⟩) 33) (.mD (.mq none (O (.nilCheck (.tmp 5)) 0) (.mq none (O (.fieldAddr 114 (.tmp 0) 0) 0) (.op (O (.store 33 (.tmp 0) (.tmp 2)) 0) (.mR (.mend (.draw [⟨none, (O (.nilCheck (.tmp 13)) 0)⟩, ⟨none, (O (.fieldAddr 109 (.tmp 0) 1) 0)⟩, ⟨none, (O (.load 3 (.tmp 0)) 3)⟩, ⟨none, (O (.load 33 (.tmp 18)) 33)⟩, ⟨none, (O (.call ⟨(.builtin .len), #[(.tmp 0)], #[33]⟩) 3)⟩, ⟨none, (O (.binOp .add 3 (.tmp 2) (.tmp 0) 3) 3)⟩, ⟨none, (O (.nilCheck (.tmp 19)) 0)⟩, ⟨none, (O (.fieldAddr 109 (.tmp 0) 1) 0)⟩] (.op (O (.store 3 (.tmp 0) (.tmp 2)) 0) (.ret []))))))))))))))))
def H119 : List (Nat × Nat) := [(1, 11), (2, 9)]
theorem T119_ok : tree H119 Tryz.f119 3 = some T119 := by kernel_rfl
def T127 : Tree := (.op (O (.alloc 192) 0) (.op (O (.build 192 #[(0, (.const (.int .u32 1116352408))), (1, (.const (.int .u32 1899447441))), (2, (.const (.int .u32 3049323471))), (3, (.const (.int .u32 3921009573))), (4, (.const (.int .u32 961987163))), (5, (.const (.int .u32 1508970993))), (6, (.const (.int .u32 2453635748))), (7, (.const (.int .u32 2870763221))), (8, (.const (.int .u32 3624381080))), (9, (.const (.int .u32 310598401))), (10, (.const (.int .u32 607225278))), (11, (.const (.int .u32 1426881987))), (12, (.const (.int .u32 1925078388))), (13, (.const (.int .u32 2162078206))), (14, (.const (.int .u32 2614888103))), (15, (.const (.int .u32 3248222580))), (16, (.const (.int .u32 3835390401))), (17, (.const (.int .u32 4022224774))), (18, (.const (.int .u32 264347078))), (19, (.const (.int .u32 604807628))), (20, (.const (.int .u32 770255983))), (21, (.const (.int .u32 1249150122))), (22, (.const (.int .u32 1555081692))), (23, (.const (.int .u32 1996064986))), (24, (.const (.int .u32 2554220882))), (25, (.const (.int .u32 2821834349))), (26, (.const (.int .u32 2952996808))), (27, (.const (.int .u32 3210313671))), (28, (.const (.int .u32 3336571891))), (29, (.const (.int .u32 3584528711))), (30, (.const (.int .u32 113926993))), (31, (.const (.int .u32 338241895))), (32, (.const (.int .u32 666307205))), (33, (.const (.int .u32 773529912))), (34, (.const (.int .u32 1294757372))), (35, (.const (.int .u32 1396182291))), (36, (.const (.int .u32 1695183700))), (37, (.const (.int .u32 1986661051))), (38, (.const (.int .u32 2177026350))), (39, (.const (.int .u32 2456956037))), (40, (.const (.int .u32 2730485921))), (41, (.const (.int .u32 2820302411))), (42, (.const (.int .u32 3259730800))), (43, (.const (.int .u32 3345764771))), (44, (.const (.int .u32 3516065817))), (45, (.const (.int .u32 3600352804))), (46, (.const (.int .u32 4094571909))), (47, (.const (.int .u32 275423344))), (48, (.const (.int .u32 430227734))), (49, (.const (.int .u32 506948616))), (50, (.const (.int .u32 659060556))), (51, (.const (.int .u32 883997877))), (52, (.const (.int .u32 958139571))), (53, (.const (.int .u32 1322822218))), (54, (.const (.int .u32 1537002063))), (55, (.const (.int .u32 1747873779))), (56, (.const (.int .u32 1955562222))), (57, (.const (.int .u32 2024104815))), (58, (.const (.int .u32 2227730452))), (59, (.const (.int .u32 2361852424))), (60, (.const (.int .u32 2428436474))), (61, (.const (.int .u32 2756734187))), (62, (.const (.int .u32 3204031479))), (63, (.const (.int .u32 3329325298)))]) 192) (.op (O (.store 192 (.tmp 1) (.tmp 0)) 0) (.ret [(.cell 2 192)]))))
def H127 : List (Nat × Nat) := []
theorem T127_ok : tree H127 Tryz.f127 0 = some T127 := by kernel_rfl
end Go.Proofs.YtfebkkmmagbnlaaGreatDoor
/-! Ta -/
namespace Go.Proofs.YtfebkkmmagbnlaaGreatDoor
open Go Go.Sx
theorem mix : Tryz.prog.follows .mixedOrders = true := by kernel_rfl
end Go.Proofs.YtfebkkmmagbnlaaGreatDoor
/-! Sx5 -/
namespace Go.Sx
open Go
set_option linter.unusedVariables false
set_option linter.unusedSimpArgs false
variable {P : Program} {R : Ending → World → Prop} {env : Env} {b : Base} {S : List SH} {B : JB} {T : Tree} {v : Value} {ty : TypeId}
theorem qs_move {x : Operand} (h : ev env x = v) : QS P (O (.move x) ty) env b S v := qs_run fun w => by subst h; rfl
theorem qs_assign {x : Operand} (h : ev env x = v) : QS P (O (.assign x) ty) env b S v := qs_run fun w => by subst h; rfl
theorem qs_mc : QS P (O (.move (.const v)) ty) env b S v := qs_move rfl
theorem qs_ac : QS P (O (.assign (.const v)) ty) env b S v := qs_assign rfl
theorem qs_mt {i : Nat} (h : env[i]? = some v) : QS P (O (.move (.tmp i)) ty) env b S v := qs_move (by simp [ev, h])
theorem qs_pick {c x y : Operand} {b0 : Bool} {u v : Value} (hc : ev env c = .bool b0) (hx : ev env x = u) (hy : ev env y = v) : QS P (O (.pick c x y) ty) env b S (if b0 then u else v) := qs_run fun w => by
 simp only [O, execOp, hc, hx, hy, asBool, Sem.run_bind, Sem.run_pure, Result.andThen_ok]
theorem qs_or {c x : Operand} {b0 b1 : Bool} (hc : ev env c = .bool b0) (hx : ev env x = gd b0 false (.bool b1)) : QS P (O (.pick c (.const (.bool true)) x) ty) env b S (.bool (b0 || b1)) := by
 have := qs_pick (P := P) (b := b) (S := S) (ty := ty) (y := x) (x := .const (.bool true)) hc rfl hx
 cases b0 <;> simpa [gd, ev] using this
theorem qs_and {c x : Operand} {b0 b1 : Bool} (hc : ev env c = .bool b0) (hx : ev env x = gd b0 true (.bool b1)) : QS P (O (.pick c x (.const (.bool false))) ty) env b S (.bool (b0 && b1)) := by
 have := qs_pick (P := P) (b := b) (S := S) (ty := ty) (x := x) (y := .const (.bool false)) hc hx rfl
 cases b0 <;> simpa [gd, ev] using this
theorem run_int {op : BinOp} {t t' : TypeId} {x y : Operand} {k : IntKind} {m n : Int} (hx : ev env x = .int k m) (hy : ev env y = .int k n) (hop : op ≠ .shl ∧ op ≠ .shr) (w : World) :
  (execOp (ev env) (O (.binOp op t x y t') ty)).run P w = ((match op with
   | .add | .sub | .mul => Op.intArith op k m n
   | .quo | .rem => Op.intDiv op k m n
   | .and | .or | .xor | .andNot => Op.intBits op k m n
   | _ => Op.intCmp op m n : Sem Value).run P w).andThen fun v w => .ok (.value v) w := by
 have hg : (eqGuard op t x y (.int k m) (.int k n)) = pure () := by
  unfold eqGuard
  split <;> rfl
 simp only [O, execOp, hx, hy, hg, Sem.run_bind, Sem.run_pure, Result.andThen_ok]
 obtain ⟨h1, h2⟩ := hop
 cases op <;> first | exact absurd rfl h1 | exact absurd rfl h2 | simp [binOp, Sem.run_bind, Sem.run_pure]
section
variable {t t' : TypeId} {x y : Operand} {k : IntKind} {m n : Int}
theorem qs_add (hx : ev env x = .int k m) (hy : ev env y = .int k n) : QS P (O (.binOp .add t x y t') ty) env b S (.int k (k.wrap (m + n))) := qs_run fun w => by rw [run_int hx hy (by simp) w]; rfl
theorem qs_sub (hx : ev env x = .int k m) (hy : ev env y = .int k n) : QS P (O (.binOp .sub t x y t') ty) env b S (.int k (k.wrap (m - n))) := qs_run fun w => by rw [run_int hx hy (by simp) w]; rfl
theorem qs_mul (hx : ev env x = .int k m) (hy : ev env y = .int k n) : QS P (O (.binOp .mul t x y t') ty) env b S (.int k (k.wrap (m * n))) := qs_run fun w => by rw [run_int hx hy (by simp) w]; rfl
theorem qs_quo (hx : ev env x = .int k m) (hy : ev env y = .int k n) (h0 : n ≠ 0) : QS P (O (.binOp .quo t x y t') ty) env b S (.int k (k.wrap (m.tdiv n))) := qs_run fun w => by rw [run_int hx hy (by simp) w]; simp only [Op.intDiv, if_neg h0]; rfl
theorem qs_rem (hx : ev env x = .int k m) (hy : ev env y = .int k n) (h0 : n ≠ 0) : QS P (O (.binOp .rem t x y t') ty) env b S (.int k (m.tmod n)) := qs_run fun w => by rw [run_int hx hy (by simp) w]; simp only [Op.intDiv, if_neg h0]; rfl
theorem qs_eql (hx : ev env x = .int k m) (hy : ev env y = .int k n) : QS P (O (.binOp .eql t x y t') ty) env b S (.bool (m == n)) := qs_run fun w => by rw [run_int hx hy (by simp) w]; rfl
theorem qs_neq (hx : ev env x = .int k m) (hy : ev env y = .int k n) : QS P (O (.binOp .neq t x y t') ty) env b S (.bool (m != n)) := qs_run fun w => by rw [run_int hx hy (by simp) w]; rfl
theorem qs_lss (hx : ev env x = .int k m) (hy : ev env y = .int k n) : QS P (O (.binOp .lss t x y t') ty) env b S (.bool (m < n)) := qs_run fun w => by rw [run_int hx hy (by simp) w]; rfl
theorem qs_leq (hx : ev env x = .int k m) (hy : ev env y = .int k n) : QS P (O (.binOp .leq t x y t') ty) env b S (.bool (m ≤ n)) := qs_run fun w => by rw [run_int hx hy (by simp) w]; rfl
theorem qs_gtr (hx : ev env x = .int k m) (hy : ev env y = .int k n) : QS P (O (.binOp .gtr t x y t') ty) env b S (.bool (m > n)) := qs_run fun w => by rw [run_int hx hy (by simp) w]; rfl
theorem qs_geq (hx : ev env x = .int k m) (hy : ev env y = .int k n) : QS P (O (.binOp .geq t x y t') ty) env b S (.bool (m ≥ n)) := qs_run fun w => by rw [run_int hx hy (by simp) w]; rfl
def bw (op : BinOp) (k : IntKind) (m n : Int) : Int :=
 k.wrap (match op with | .and => BitVec.ofInt k.bits m &&& BitVec.ofInt k.bits n | .or => BitVec.ofInt k.bits m ||| BitVec.ofInt k.bits n | .xor => BitVec.ofInt k.bits m ^^^ BitVec.ofInt k.bits n | _ => BitVec.ofInt k.bits m &&& ~~~BitVec.ofInt k.bits n).toNat
theorem qs_and_ (hx : ev env x = .int k m) (hy : ev env y = .int k n) : QS P (O (.binOp .and t x y t') ty) env b S (.int k (bw .and k m n)) := qs_run fun w => by rw [run_int hx hy (by simp) w]; rfl
theorem qs_or_ (hx : ev env x = .int k m) (hy : ev env y = .int k n) : QS P (O (.binOp .or t x y t') ty) env b S (.int k (bw .or k m n)) := qs_run fun w => by rw [run_int hx hy (by simp) w]; rfl
theorem qs_xor_ (hx : ev env x = .int k m) (hy : ev env y = .int k n) : QS P (O (.binOp .xor t x y t') ty) env b S (.int k (bw .xor k m n)) := qs_run fun w => by rw [run_int hx hy (by simp) w]; rfl
theorem qs_shl {k' : IntKind} (hx : ev env x = .int k m) (hy : ev env y = .int k' n) (h0 : 0 ≤ n) : QS P (O (.binOp .shl t x y t') ty) env b S (.int k (k.wrap (m * 2 ^ min n.toNat k.bits))) := qs_run fun w => by
 have h1 : ¬ n < 0 := by omega
 simp only [O, execOp, hx, hy, eqGuard, binOp, Op.shift, if_neg h1, Sem.run_bind, Sem.run_pure, Result.andThen_ok]
 rfl
theorem qs_shr {k' : IntKind} (hx : ev env x = .int k m) (hy : ev env y = .int k' n) (h0 : 0 ≤ n) : QS P (O (.binOp .shr t x y t') ty) env b S (.int k (m.fdiv (2 ^ min n.toNat k.bits))) := qs_run fun w => by
 have h1 : ¬ n < 0 := by omega
 simp only [O, execOp, hx, hy, eqGuard, binOp, Op.shift, if_neg h1, Sem.run_bind, Sem.run_pure, Result.andThen_ok]
 rfl
theorem qs_add64 (hx : ev env x = .int .i64 m) (hy : ev env y = .int .i64 n) (h : -9223372036854775808 ≤ m + n ∧ m + n ≤ 9223372036854775807) : QS P (O (.binOp .add t x y t') ty) env b S (.int .i64 (m + n)) := by
 have := qs_add (P := P) (b := b) (S := S) (t := t) (t' := t') (ty := ty) hx hy
 rwa [IntWalk.i64_in _ h] at this
theorem qs_sub64 (hx : ev env x = .int .i64 m) (hy : ev env y = .int .i64 n) (h : -9223372036854775808 ≤ m - n ∧ m - n ≤ 9223372036854775807) : QS P (O (.binOp .sub t x y t') ty) env b S (.int .i64 (m - n)) := by
 have := qs_sub (P := P) (b := b) (S := S) (t := t) (t' := t') (ty := ty) hx hy
 rwa [IntWalk.i64_in _ h] at this
theorem qs_mul64 (hx : ev env x = .int .i64 m) (hy : ev env y = .int .i64 n) (h : -9223372036854775808 ≤ m * n ∧ m * n ≤ 9223372036854775807) : QS P (O (.binOp .mul t x y t') ty) env b S (.int .i64 (m * n)) := by
 have := qs_mul (P := P) (b := b) (S := S) (t := t) (t' := t') (ty := ty) hx hy
 rwa [IntWalk.i64_in _ h] at this
theorem qs_quo64 (hx : ev env x = .int .i64 m) (hy : ev env y = .int .i64 n) (h0 : 0 ≤ m) (h1 : 0 < n) (hm : m ≤ 9223372036854775807) : QS P (O (.binOp .quo t x y t') ty) env b S (.int .i64 (m / n)) := by
 have := qs_quo (P := P) (b := b) (S := S) (t := t) (t' := t') (ty := ty) hx hy (by omega)
 rw [Int.tdiv_eq_ediv_of_nonneg h0] at this
 have hb : 0 ≤ m / n := Int.ediv_nonneg h0 (by omega)
 have hc : m / n ≤ m := Int.ediv_le_self n h0
 rwa [IntWalk.i64_in _ ⟨by omega, by omega⟩] at this
theorem qs_rem64 (hx : ev env x = .int k m) (hy : ev env y = .int k n) (h0 : 0 ≤ m) (h1 : n ≠ 0) : QS P (O (.binOp .rem t x y t') ty) env b S (.int k (m % n)) := by
 have := qs_rem (P := P) (b := b) (S := S) (t := t) (t' := t') (ty := ty) hx hy h1
 rwa [Int.tmod_eq_emod_of_nonneg h0] at this
theorem qs_not {b0 : Bool} (hx : ev env x = .bool b0) : QS P (O (.unOp .not t x) ty) env b S (.bool (!b0)) := qs_run fun w => by simp only [O, execOp, hx, Op.unary, Sem.run_bind, Sem.run_pure, Result.andThen_ok]
theorem qs_neg (hx : ev env x = .int k m) : QS P (O (.unOp .neg t x) ty) env b S (.int k (k.wrap (0 - m))) := qs_run fun w => by simp only [O, execOp, hx, Op.unary, Op.intArith, Sem.run_bind, Sem.run_pure, Result.andThen_ok]
theorem qs_inv (hx : ev env x = .int k m) : QS P (O (.unOp .xor t x) ty) env b S (.int k (bw .xor k (if k.signed then -1 else k.max) m)) := qs_run fun w => by simp only [O, execOp, hx, Op.unary, Op.intBits, Sem.run_bind, Sem.run_pure, Result.andThen_ok]; rfl
theorem run_underlying_ok {d : TypeDesc} (h : P.underlying t = some d) (w : World) : (underlying t).run P w = .ok d w := by simp only [underlying, program, Sem.run_bind, Sem.run, Result.andThen_ok, h]; rfl
theorem qs_conv {d : TypeDesc} {k' : IntKind} (hs : P.underlying t = some d) (hd : P.underlying t' = some (.int k')) (hx : ev env x = .int k m) : QS P (O (.convert t t' x) ty) env b S (.int k' (k'.wrap m)) := qs_run fun w => by
 simp only [O, execOp, hx, convert, Sem.run_bind, run_underlying_ok hs, run_underlying_ok hd, Result.andThen_ok]
 rfl
end
def bs (l : List UInt8) : ByteArray := ⟨l.toArray⟩
theorem bs_toList (l : List UInt8) : (bs l).toList = l := by rw [ByteArray.toList_eq]; rfl
theorem bs_data (l : List UInt8) : (bs l).data.toList = l := rfl
theorem bs_size (l : List UInt8) : (bs l).size = l.length := rfl
theorem bs_of (s : ByteArray) : s = bs s.data.toList := by cases s; rfl
theorem bs_append (l m : List UInt8) : bs l ++ bs m = bs (l ++ m) := by
 have := bs_of (bs l ++ bs m)
 rw [this]
 congr 1
theorem bs_extract (l : List UInt8) (a z : Nat) : (bs l).extract a z = bs ((l.take z).drop a) := by
 have := bs_of ((bs l).extract a z)
 rw [this]
 congr 1
 rw [ByteArray.data_extract, bs]
 simp [List.drop_take]
theorem bs_get (l : List UInt8) (i : Nat) : (bs l)[i]? = l[i]? := by
 by_cases h : i < l.length
 ·rw [getElem?_pos (bs l) i h, List.getElem?_eq_getElem h]
  rfl
 ·rw [getElem?_neg (bs l) i h, List.getElem?_eq_none (by omega)]
theorem bs_inj {l m : List UInt8} (h : bs l = bs m) : l = m := by
 have := congrArg (fun s => s.data.toList) h
 simpa [bs] using this
section
variable {t t' : TypeId} {x y : Operand} {l l' : List UInt8}
theorem run_str {op : BinOp} {s u : ByteArray} (hx : ev env x = .string s) (hy : ev env y = .string u) (w : World) :
  (execOp (ev env) (O (.binOp op t x y t') ty)).run P w = ((Op.stringOp op s u).run P w).andThen fun v w => .ok (.value v) w := by
 have hg : (eqGuard op t x y (.string s) (.string u)) = pure () := by
  unfold eqGuard
  split <;> rfl
 simp only [O, execOp, hx, hy, hg, Sem.run_bind, Sem.run_pure, Result.andThen_ok]
 cases op <;> simp [binOp, Sem.run_bind, Sem.run_pure]
theorem qs_seql (hx : ev env x = .string (bs l)) (hy : ev env y = .string (bs l')) : QS P (O (.binOp .eql t x y t') ty) env b S (.bool (l == l')) := qs_run fun w => by rw [run_str hx hy w]; simp only [Op.stringOp, bs_toList]; rfl
theorem qs_sadd (hx : ev env x = .string (bs l)) (hy : ev env y = .string (bs l')) (h : l.length + l'.length ≤ 9223372036854775807) : QS P (O (.binOp .add t x y t') ty) env b S (.string (bs (l ++ l'))) := qs_run fun w => by
 rw [run_str hx hy w]
 have h1 : ¬ ((((bs l).size + (bs l').size : Nat) : Int) > IntKind.i64.max) := by
  have : IntKind.i64.max = 9223372036854775807 := rfl
  rw [this, bs_size, bs_size]; omega
 simp only [Op.stringOp, if_neg h1, Sem.run_pure, Result.andThen_ok, bs_append]
theorem run_b1 {bi : Builtin} {t : TypeId} (w : World) : (execOp (ev env) (O (.call ⟨.builtin bi, #[x], #[t]⟩) ty)).run P w = (builtin bi #[t] ty #[match x with | .const _ => true | _ => false] #[ev env x]).run P w := by
 simp [O, execOp, resolve, invoke, Sem.run_bind, Sem.run_pure, Result.andThen_ok]
 cases x <;> rfl
theorem qs_lens (ht : P.underlying t = some .string) (hx : ev env x = .string (bs l)) : QS P (O (.call ⟨.builtin .len, #[x], #[t]⟩) ty) env b S (.int .i64 l.length) := qs_run fun w => by
 rw [run_b1 w, hx]
 simp only [builtin, Builtin.len_, Sem.run_bind, run_underlying_ok ht, Result.andThen_ok, List.getElem?_toArray, List.getElem?_cons_zero]
 rfl
theorem qs_lenl {e : TypeId} {A : Option Addr} {n c : Nat} (ht : P.underlying t = some (.slice e)) (hx : ev env x = .slice A n c) : QS P (O (.call ⟨.builtin .len, #[x], #[t]⟩) ty) env b S (.int .i64 n) := qs_run fun w => by
 rw [run_b1 w, hx]
 simp only [builtin, Builtin.len_, Sem.run_bind, run_underlying_ok ht, Result.andThen_ok, List.getElem?_toArray, List.getElem?_cons_zero]
 rfl
theorem qs_idxs {k : IntKind} {m : Int} {c : UInt8} (ht : P.underlying t = some .string) (hx : ev env x = .string (bs l)) (hy : ev env y = .int k m) (h0 : 0 ≤ m) (h : l[m.toNat]? = some c) : QS P (O (.index t x y) ty) env b S (.int .u8 (c.toNat : Int)) := qs_run fun w => by
 simp only [O, execOp, hx, hy, Instr.index, asIntOf, Sem.run_bind, Sem.run_pure, Result.andThen_ok, run_underlying_ok ht, if_pos h0, bs_get, h]
theorem qs_idx {k : IntKind} {m : Int} (ht : P.underlying t = some .string) (hx : ev env x = .string (bs l)) (hy : ev env y = .int k m) (h : 0 ≤ m ∧ m < l.length) : QS P (O (.index t x y) ty) env b S (.int .u8 ((l.getD m.toNat 0).toNat : Int)) :=
 qs_idxs ht hx hy h.1 (by
  have : m.toNat < l.length := by omega
  simp [this])
theorem run_bound {k : IntKind} {n y : Nat} {code : BoundsCode} (h : n ≤ y) (w : World) : (Instr.sliceBound (.int k (n : Int)) y code).run P w = .ok n w := by
 have hb : (0 : Int) ≤ (n : Int) ∧ (n : Int) ≤ (y : Int) := by omega
 simp only [Instr.sliceBound, asIntOf, Sem.run_bind, Sem.run_pure, Result.andThen_ok, if_pos hb, Int.toNat_natCast]
def bd (env : Env) (o : Option Operand) (n d : Nat) : Prop := match o with | some x => ∃ k, ev env x = .int k (n : Int) | none => n = d
theorem run_bounds {isS : Bool} {len cap : Nat} {lo hi : Option Operand} {a z : Nat} (hlo : bd env lo a 0) (hhi : bd env hi z len) (h1 : a ≤ z) (h2 : z ≤ cap) (w : World) :
  (Instr.sliceBounds isS len cap (lo.map (ev env)) (hi.map (ev env)) none).run P w = .ok (a, z, cap) w := by
 unfold bd at hlo hhi
 cases lo with
 | none =>
  simp only at hlo
  subst hlo
  cases hi with
  | none =>
   simp only at hhi
   subst hhi
   simp [Instr.sliceBounds, Sem.run_bind, Sem.run_pure]
  | some h =>
   obtain ⟨k, hk⟩ := hhi
   simp [Instr.sliceBounds, hk, run_bound h2, Sem.run_bind, Sem.run_pure]
 | some l =>
  obtain ⟨k0, hk0⟩ := hlo
  cases hi with
  | none =>
   simp only at hhi
   subst hhi
   simp [Instr.sliceBounds, hk0, run_bound h1, Sem.run_bind, Sem.run_pure]
  | some h =>
   obtain ⟨k, hk⟩ := hhi
   simp [Instr.sliceBounds, hk, hk0, run_bound h2, run_bound h1, Sem.run_bind, Sem.run_pure]
theorem qs_cuts {lo hi : Option Operand} {a z : Nat} (ht : P.underlying t = some .string) (hx : ev env x = .string (bs l)) (hlo : bd env lo a 0) (hhi : bd env hi z l.length) (h1 : a ≤ z) (h2 : z ≤ l.length) :
  QS P (O (.slice t x lo hi none) ty) env b S (.string (bs ((l.take z).drop a))) := qs_run fun w => by
 simp only [O, execOp, hx, Instr.sliceAt, Instr.slice, Option.map_none, Option.isSome_none, Bool.false_eq_true, if_false, Sem.run_bind, Sem.run_pure, Result.andThen_ok, run_underlying_ok ht, bs_size]
 rw [run_bounds hlo hhi h1 h2]
 simp only [Result.andThen_ok, Sem.run_pure, bs_extract]
theorem qs_cutl {e : TypeId} {lo hi : Option Operand} {a z n c sz : Nat} {A : Option Addr} (ht : P.underlying t = some (.slice e)) (hz : (P.info? e).map (·.size) = some sz) (hx : ev env x = .slice A n c) (hlo : bd env lo a 0) (hhi : bd env hi z n) (h1 : a ≤ z) (h2 : z ≤ c) :
  QS P (O (.slice t x lo hi none) ty) env b S (.slice (if c = a then A else A.map (·.add (a * sz))) (z - a) (c - a)) := qs_run fun w => by
 have hz' : ∀ w, (sizeOf e).run P w = .ok sz w := fun w => by
  obtain ⟨i, hi, rfl⟩ := Option.map_eq_some_iff.1 hz
  simp only [sizeOf, typeInfo, program, Sem.run_bind, Sem.run, Result.andThen_ok, hi]
  rfl
 simp only [O, execOp, hx, Instr.sliceAt, Instr.slice, Option.map_none, Sem.run_bind, Sem.run_pure, Result.andThen_ok, run_underlying_ok ht]
 rw [run_bounds hlo hhi h1 h2]
 simp only [Result.andThen_ok, Sem.run_pure, hz', Sem.run_bind]
end
theorem run_sizeOf_ok {t : TypeId} {n : Nat} (h : (P.info? t).map (·.size) = some n) (w : World) : (sizeOf t).run P w = .ok n w := by
 obtain ⟨i, hi, rfl⟩ := Option.map_eq_some_iff.1 h
 simp only [sizeOf, typeInfo, program, Sem.run_bind, Sem.run, Result.andThen_ok, hi]
 rfl
def flat : TypeDesc → Bool
 | .struct _ | .array _ _ => false
 | _ => true
theorem run_load_ok {a : Addr} {w : World} (h : w.cell? a = some v) : (load a).run P w = .ok v w := by
 simp only [load, Sem.run, h]
theorem run_loadVar_flat {t : TypeId} {d : TypeDesc} (hu : P.underlying t = some d) (hd : flat d = true) {a : Addr} {w : World} (h : w.cell? a = some v) : (loadVar t a).run P w = .ok v w := by
 have : (isAgg t).run P w = .ok false w := by
  simp only [isAgg, Sem.run_bind, run_underlying_ok hu, Result.andThen_ok]
  cases d <;> first | rfl | cases hd
 simp only [loadVar, Sem.run_bind, this, Result.andThen_ok, Bool.false_eq_true, if_false, run_load_ok h]
theorem cell_of {w : World} {g i : Nat} {l : List Value} {e : TypeId} {fz : Nat × Nat} (h : w.heap[g]? = some (.cells l.toArray e fz)) : w.cell? ⟨g, i, none⟩ = l[i]? := by
 simp [World.cell?, h]
theorem Sig.at_ {b : Base} {w : World} (hw : Sig b S w) {k g : Nat} {o : Obj} (hk : S[k]? = some [(g, o)]) : w.heap[g]? = some o := hw.own (g, o) (mem_flatten_of hk (by simp))
theorem qs_load {t : TypeId} {d : TypeDesc} {x : Operand} {g i : Nat} {l : List Value} {e : TypeId} {fz : Nat × Nat} (k : Nat) (hu : P.underlying t = some d) (hd : flat d = true) (hx : ev env x = .pointer (some ⟨g, i, none⟩))
  (hk : S[k]? = some [(g, .cells l.toArray e fz)]) (hi : l[i]? = some v) : QS P (O (.load t x) ty) env b S v := qs_val fun w hw => by
 have h := cell_of (i := i) (hw.at_ hk)
 rw [hi] at h
 simp only [O, execOp, hx, Instr.loadAt, Instr.sureAddr, Sem.run_bind, Sem.run_pure, Result.andThen_ok, run_loadVar_flat hu hd h]
theorem Sig.ro {b : Base} {w : World} (hw : Sig b S w) {a : Addr} (h : b.w0.cell? a = some v) (hD : a.block ∉ b.D) : w.cell? a = some v := by
 have hlt : a.block < b.w0.heap.size := by
  unfold World.cell? at h
  split at h
  ·rename_i h1; exact lt_of_get h1
  ·cases h
 unfold World.cell? at *
 rw [hw.frame _ hlt hD]
 exact h
theorem run_loadCellsFrom {w : World} {a : Addr} : ∀ (n i : Nat) (acc : Array Value) (l : List Value), l.length = n → (∀ j, j < n → w.cell? (a.add (i + j)) = l[j]?) → (loadCellsFrom a i n acc).run P w = .ok (acc ++ l.toArray) w
 | 0, i, acc, l, hl, _ => by
  have : l = [] := List.eq_nil_of_length_eq_zero hl
  subst this
  simp [loadCellsFrom, Sem.run_pure]
 | n + 1, i, acc, l, hl, h => by
  match l, hl with
  | v :: l, hl =>
   have h0 := h 0 (by omega)
   simp only [Nat.add_zero, List.getElem?_cons_zero] at h0
   have ih := run_loadCellsFrom n (i + 1) (acc.push v) l (by simpa using hl) (fun j hj => by
    have := h (j + 1) (by omega)
    rw [show i + (j + 1) = i + 1 + j by omega] at this
    simpa using this)
   simp only [loadCellsFrom, Sem.run_bind, run_load_ok h0, Result.andThen_ok, ih]
   simp
theorem run_loadCells {w : World} {a : Addr} {n : Nat} {l : List Value} (hl : l.length = n) (h : ∀ j, j < n → w.cell? (a.add j) = l[j]?) : (loadCells a n).run P w = .ok l.toArray w := by
 have := run_loadCellsFrom (P := P) (w := w) (a := a) n 0 #[] l hl (by simpa using h)
 simpa [loadCells] using this
theorem add_off (g off j : Nat) : (⟨g, off, none⟩ : Addr).add j = ⟨g, off + j, none⟩ := by
 unfold Addr.add
 split
 ·rename_i h; subst h; simp
 ·rfl
theorem run_loadVar_agg {t : TypeId} {d : TypeDesc} {n : Nat} (hu : P.underlying t = some d) (hd : flat d = false) (hz : (P.info? t).map (·.size) = some n) {g off : Nat} {w : World} {l : List Value} (hl : l.length = n)
  (h : ∀ j, j < n → w.cell? ⟨g, off + j, none⟩ = l[j]?) : (loadVar t ⟨g, off, none⟩).run P w = .ok (.agg l.toArray) w := by
 have : (isAgg t).run P w = .ok true w := by
  simp only [isAgg, Sem.run_bind, run_underlying_ok hu, Result.andThen_ok]
  cases d <;> first | rfl | cases hd
 have h2 := run_loadCells (P := P) (w := w) (a := ⟨g, off, none⟩) hl (fun j hj => by rw [add_off]; exact h j hj)
 simp only [loadVar, Sem.run_bind, this, Result.andThen_ok, if_true, run_sizeOf_ok hz, h2, Sem.run_pure]
theorem qs_loada {t : TypeId} {d : TypeDesc} {x : Operand} {g i n : Nat} {l : List Value} {e : TypeId} {fz : Nat × Nat} (k : Nat) (hu : P.underlying t = some d) (hd : flat d = false) (hz : (P.info? t).map (·.size) = some n) (hx : ev env x = .pointer (some ⟨g, i, none⟩))
  (hk : S[k]? = some [(g, .cells l.toArray e fz)]) (hi : i + n ≤ l.length) : QS P (O (.load t x) ty) env b S (.agg ((l.drop i).take n).toArray) := qs_val fun w hw => by
 have h := fun j => cell_of (i := j) (hw.at_ hk)
 have := run_loadVar_agg (P := P) (w := w) (g := g) (off := i) (l := (l.drop i).take n) hu hd hz (by simp; omega) (fun j hj => by
  rw [h (i + j), List.getElem?_take_of_lt hj, List.getElem?_drop])
 simp only [O, execOp, hx, Instr.loadAt, Instr.sureAddr, Sem.run_bind, Sem.run_pure, Result.andThen_ok, this]
theorem qs_loadw {t : TypeId} {d : TypeDesc} {x : Operand} {g n : Nat} {l : List Value} {e : TypeId} {fz : Nat × Nat} (k : Nat) (hu : P.underlying t = some d) (hd : flat d = false) (hz : (P.info? t).map (·.size) = some n) (hx : ev env x = .pointer (some ⟨g, 0, none⟩))
  (hk : S[k]? = some [(g, .cells l.toArray e fz)]) (hi : l.length = n) : QS P (O (.load t x) ty) env b S (.agg l.toArray) := by
 have := qs_loada (P := P) (b := b) (ty := ty) k hu hd hz hx hk (by omega)
 rwa [List.drop_zero, List.take_of_length_le (by omega)] at this
def oneV : Value → Bool
 | .agg _ | .tuple _ => false
 | _ => true
theorem cells_of_one {v : Value} (h : oneV v = true) : v.cells = #[v] := by cases v <;> first | rfl | cases h
theorem run_store_ok {w : World} {g i : Nat} {l : List Value} {e : TypeId} {fz : Nat × Nat} (h : w.heap[g]? = some (.cells l.toArray e fz)) (hi : i < l.length) (hf : ¬ (fz.1 ≤ i ∧ i < fz.2)) (hv : oneV v = true) :
  (store ⟨g, i, none⟩ v).run P w = .ok () (w.setCell ⟨g, i, none⟩ v) := by
 have hc := cell_of (i := i) h
 rw [List.getElem?_eq_getElem hi] at hc
 have hfr : w.frozen? ⟨g, i, none⟩ = false := by
  unfold World.frozen?
  simp only [h]
  simpa using hf
 have hv' : v.oneCell' = true := by cases v <;> first | rfl | cases hv
 rw [run_store P w _ v _ hv']
 simp only [hc, hfr, Bool.false_eq_true, if_false]
theorem heap_setCell {w : World} {g i : Nat} {l : List Value} {e : TypeId} {fz : Nat × Nat} (h : w.heap[g]? = some (.cells l.toArray e fz)) (v : Value) :
  (w.setCell ⟨g, i, none⟩ v).heap[g]? = some (.cells (l.set i v).toArray e fz) ∧ (∀ j, j ≠ g → (w.setCell ⟨g, i, none⟩ v).heap[j]? = w.heap[j]?) ∧ (w.setCell ⟨g, i, none⟩ v).heap.size = w.heap.size := by
 refine ⟨?_, fun j hj => ?_, ?_⟩
 ·simp [World.setCell, Array.getElem?_modify, h]
 ·simp only [World.setCell, Array.getElem?_modify]
  rw [if_neg (fun e => hj e.symm)]
 ·simp [World.setCell]
theorem run_storeCells_ok {g : Nat} {e : TypeId} {fz : Nat × Nat} : ∀ (vs : List Value) (off i : Nat) (l : List Value) (w : World), w.heap[g]? = some (.cells l.toArray e fz) → off + i + vs.length ≤ l.length → (∀ j, off + i ≤ j → j < off + i + vs.length → ¬ (fz.1 ≤ j ∧ j < fz.2)) → (∀ v ∈ vs, oneV v = true) →
  ∃ w', (storeCells ⟨g, off, none⟩ vs i).run P w = .ok () w' ∧ w'.os = w.os ∧ w'.tape = w.tape ∧ w'.output = w.output ∧ w'.heap.size = w.heap.size ∧ w'.heap[g]? = some (.cells (l.take (off + i) ++ vs ++ l.drop (off + i + vs.length)).toArray e fz) ∧ ∀ j, j ≠ g → w'.heap[j]? = w.heap[j]?
 | [], off, i, l, w, h, hl, _, _ => ⟨w, rfl, rfl, rfl, rfl, rfl, by simpa using h, fun _ _ => rfl⟩
 | v :: vs, off, i, l, w, h, hl, hf, hv => by
  simp only [List.length_cons] at hl hf
  have h1 := run_store_ok (P := P) h (i := off + i) (by omega) (hf (off + i) (by omega) (by omega)) (hv v (by simp))
  obtain ⟨g1, g2, g3⟩ := heap_setCell (i := off + i) h v
  obtain ⟨w', e1, e2, e3, e4, e5, e6, e7⟩ := run_storeCells_ok vs off (i + 1) (l.set (off + i) v) _ g1 (by simp; omega) (fun j h1 h2 => hf j (by omega) (by omega)) (fun u hu => hv u (by simp [hu]))
  refine ⟨w', ?_, e2.trans rfl, e3.trans rfl, e4.trans rfl, e5.trans g3, ?_, fun j hj => (e7 j hj).trans (g2 j hj)⟩
  ·simp only [storeCells, add_off, Sem.run_bind, h1, Result.andThen_ok, e1]
  ·rw [e6]
   have hlt : off + i < l.length := by omega
   have : (l.set (off + i) v).take (off + (i + 1)) ++ vs ++ (l.set (off + i) v).drop (off + (i + 1) + vs.length) = l.take (off + i) ++ v :: vs ++ l.drop (off + i + (vs.length + 1)) := by
    rw [show off + (i + 1) = off + i + 1 by omega, List.take_succ_eq_append_getElem (by simpa using hlt), List.take_set_of_le (Nat.le_refl _), List.getElem_set_self, List.drop_set_of_lt (by omega)]
    simp [show off + i + 1 + vs.length = off + i + (vs.length + 1) by omega]
   rw [this]
   rfl
theorem j_store {t : TypeId} {x y : Operand} {g i : Nat} {l : List Value} {e : TypeId} {fz : Nat × Nat} (k : Nat) (hz : (P.info? t).map (·.size) = some 1) (hx : ev env x = .pointer (some ⟨g, i, none⟩)) (hy : ev env y = v) (hv : oneV v = true)
  (hk : S[k]? = some [(g, .cells l.toArray e fz)]) (hi : i < l.length) (hf : ¬ (fz.1 ≤ i ∧ i < fz.2)) (h : J P R T (undef :: env) (S.set k [(g, .cells (l.set i v).toArray e fz)]) b B) : J P R (.op (O (.store t x y) ty) T) env S b B := fun w hw => by
 have hg := hw.at_ hk
 have h1 := run_store_ok (P := P) hg hi hf hv
 obtain ⟨g1, g2, g3⟩ := heap_setCell (i := i) hg v
 have hc : v.cells = #[v] := cells_of_one hv
 have hrun : (execOp (ev env) (O (.store t x y) ty)).run P w = .ok .skip (w.setCell ⟨g, i, none⟩ v) := by
  simp only [O, execOp, hx, hy, Instr.storeAt, Instr.sureAddr, storeVar, hc, Sem.run_bind, Sem.run_pure, Result.andThen_ok, run_sizeOf_ok hz, List.size_toArray, List.length_cons, List.length_nil, Nat.zero_add, ne_eq, not_true_eq_false, if_false, storeCells, add_off, Nat.add_zero, h1]
 show opW _ _ _ _ _ _
 unfold opW
 rw [hrun]
 exact h _ (hw.set hk rfl rfl rfl g3 g1 g2)
theorem j_storea {t : TypeId} {x y : Operand} {g i n : Nat} {l vs : List Value} {e : TypeId} {fz : Nat × Nat} (k : Nat) (hz : (P.info? t).map (·.size) = some n) (hx : ev env x = .pointer (some ⟨g, i, none⟩)) (hy : ev env y = .agg vs.toArray) (hn : vs.length = n) (hv : ∀ v ∈ vs, oneV v = true)
  (hk : S[k]? = some [(g, .cells l.toArray e fz)]) (hi : i + n ≤ l.length) (hf : ∀ j, i ≤ j → j < i + n → ¬ (fz.1 ≤ j ∧ j < fz.2)) (h : J P R T (undef :: env) (S.set k [(g, .cells (l.take i ++ vs ++ l.drop (i + n)).toArray e fz)]) b B) : J P R (.op (O (.store t x y) ty) T) env S b B := fun w hw => by
 have hg := hw.at_ hk
 subst hn
 obtain ⟨w', e1, e2, e3, e4, e5, e6, e7⟩ := run_storeCells_ok (P := P) vs i 0 l w hg (by omega) (fun j h1 h2 => hf j (by omega) (by omega)) hv
 have hrun : (execOp (ev env) (O (.store t x y) ty)).run P w = .ok .skip w' := by
  simp only [O, execOp, hx, hy, Instr.storeAt, Instr.sureAddr, storeVar, Value.cells, Sem.run_bind, Sem.run_pure, Result.andThen_ok, run_sizeOf_ok hz, List.size_toArray, ne_eq, not_true_eq_false, if_false, e1]
 show opW _ _ _ _ _ _
 unfold opW
 rw [hrun]
 exact h _ (hw.set hk e2 e3 e4 e5 (by simpa using e6) e7)
theorem j_storew {t : TypeId} {x y : Operand} {g n : Nat} {l vs : List Value} {e : TypeId} (k : Nat) (hz : (P.info? t).map (·.size) = some n) (hx : ev env x = .pointer (some ⟨g, 0, none⟩)) (hy : ev env y = .agg vs.toArray) (hn : vs.length = n) (hv : ∀ v ∈ vs, oneV v = true)
  (hk : S[k]? = some [(g, .cells l.toArray e (0, 0))]) (hi : l.length = n) (h : J P R T (undef :: env) (S.set k [(g, .cells vs.toArray e (0, 0))]) b B) : J P R (.op (O (.store t x y) ty) T) env S b B := by
 refine j_storea k hz hx hy hn hv hk (by omega) (fun j _ _ h => by omega) ?_
 have : l.take 0 ++ vs ++ l.drop (0 + n) = vs := by simp [← hi]
 rw [this]
 exact h
def zeroL (P : Program) (t : TypeId) : Option (List Value) := ((P.info? t).bind (·.zero)).map (·.cells.toList)
theorem run_zero_ok {t : TypeId} {l : List Value} (h : zeroL P t = some l) : ∃ z : Value, z.cells = l.toArray ∧ ∀ w, (zeroValue t).run P w = .ok z w := by
 unfold zeroL at h
 cases hi : P.info? t with
 | none => simp [hi] at h
 | some i =>
  cases hz : i.zero with
  | none => simp [hi, hz] at h
  | some z =>
   simp [hi, hz] at h
   subst h
   refine ⟨z, by simp, fun w => ?_⟩
   simp only [zeroValue, typeInfo, program, Sem.run_bind, Sem.run, Result.andThen_ok, hi, hz]
   simp only [Sem.run_bind, Sem.run_pure, Result.andThen_ok, hz]
theorem j_alloc {t : TypeId} {l : List Value} (hz : zeroL P t = some l) (h : ∀ g, b.w0.heap.size ≤ g → g ∉ dom S.flatten → J P R T (.pointer (some ⟨g, 0, none⟩) :: env) ([(g, .cells l.toArray t (0, 0))] :: S) b B) : J P R (.op (O (.alloc t) ty) T) env S b B := fun w hw => by
 obtain ⟨z, hz, hrun⟩ := run_zero_ok hz
 have e : (execOp (ev env) (O (.alloc t) ty)).run P w = .ok (.value (.pointer (some ⟨w.heap.size, 0, none⟩))) { w with heap := w.heap.push (.cells l.toArray t (0, 0)) } := by
  simp only [O, execOp, Instr.alloc, Sem.run_bind, hrun, Result.andThen_ok, newVar, newRow, newObj, hz, Sem.run, Sem.run_pure]
 show opW _ _ _ _ _ _
 unfold opW
 rw [e]
 obtain ⟨h1, h2, h3⟩ := hw.new (o := .cells l.toArray t (0, 0)) (w' := { w with heap := w.heap.push (.cells l.toArray t (0, 0)) }) rfl rfl rfl rfl
 exact h _ h3 h2 _ h1
theorem j_box {t : TypeId} {x : Operand} {l : List Value} (hx : (ev env x).cells = l.toArray) (h : ∀ g, b.w0.heap.size ≤ g → g ∉ dom S.flatten → J P R T (.pointer (some ⟨g, 0, none⟩) :: env) ([(g, .cells l.toArray t (0, 0))] :: S) b B) : J P R (.op (O (.box t x) ty) T) env S b B := fun w hw => by
 have e : (execOp (ev env) (O (.box t x) ty)).run P w = .ok (.value (.pointer (some ⟨w.heap.size, 0, none⟩))) { w with heap := w.heap.push (.cells l.toArray t (0, 0)) } := by
  simp only [O, execOp, Instr.box, Sem.run_bind, Result.andThen_ok, newVar, newRow, newObj, hx, Sem.run, Sem.run_pure]
 show opW _ _ _ _ _ _
 unfold opW
 rw [e]
 obtain ⟨h1, h2, h3⟩ := hw.new (o := .cells l.toArray t (0, 0)) (w' := { w with heap := w.heap.push (.cells l.toArray t (0, 0)) }) rfl rfl rfl rfl
 exact h _ h3 h2 _ h1
theorem qs_nil {x : Operand} {a : Addr} (hx : ev env x = .pointer (some a)) : QS P (O (.nilCheck x) ty) env b S (.pointer (some a)) := qs_run fun w => by
 simp only [O, execOp, hx, Sem.run_pure]
theorem qs_ixa {t e : TypeId} {x y : Operand} {n sz g off : Nat} {k : IntKind} {m : Int} (ht : P.underlying t = some (.array n e)) (hz : (P.info? e).map (·.size) = some sz) (hx : ev env x = .pointer (some ⟨g, off, none⟩)) (hy : ev env y = .int k m) (h0 : 0 ≤ m) (h1 : m < n) :
  QS P (O (.indexAddr t x y) ty) env b S (.pointer (some ⟨g, off + m.toNat * sz, none⟩)) := qs_run fun w => by
 simp only [O, execOp, hx, hy, Instr.indexAt, asIntOf, Instr.sureAddr, Sem.run_bind, Sem.run_pure, Result.andThen_ok, run_underlying_ok ht, run_sizeOf_ok hz]
 rw [if_pos ⟨h0, h1⟩]
 simp only [Sem.run_bind, Sem.run_pure, Result.andThen_ok, run_sizeOf_ok hz, add_off]
theorem qs_ixl {t e : TypeId} {x y : Operand} {n c sz : Nat} {a : Addr} {k : IntKind} {m : Int} (ht : P.underlying t = some (.slice e)) (hz : (P.info? e).map (·.size) = some sz) (hx : ev env x = .slice (some a) n c) (hy : ev env y = .int k m) (h0 : 0 ≤ m) (h1 : m < n) :
  QS P (O (.indexAddr t x y) ty) env b S (.pointer (some (a.add (m.toNat * sz)))) := qs_run fun w => by
 simp only [O, execOp, hx, hy, Instr.indexAt, asIntOf, Instr.sureAddr, Sem.run_bind, Sem.run_pure, Result.andThen_ok, run_underlying_ok ht, run_sizeOf_ok hz]
 rw [if_pos ⟨h0, h1⟩]
 simp only [Sem.run_bind, Sem.run_pure, Result.andThen_ok, run_sizeOf_ok hz]
theorem qs_ext {x : Operand} {i : Nat} {vs : List Value} (hx : ev env x = .tuple vs.toArray) (hi : vs[i]? = some v) : QS P (O (.extract x i) ty) env b S v := qs_run fun w => by
 have : vs.toArray[i]? = some v := by simpa using hi
 simp only [O, execOp, hx, Instr.extract, this, Sem.run_bind, Sem.run_pure, Result.andThen_ok]
end Go.Sx
/-! Sx6 -/
namespace Go.Sx
open Go
set_option linter.unusedVariables false
set_option linter.unusedSimpArgs false
variable {P : Program} {R : Ending → World → Prop} {env : Env} {b : Base} {S : List SH} {B : JB} {T : Tree} {v : Value} {ty : TypeId}
def ints (l : List UInt8) : List Value := l.map fun c => .int .u8 (c.toNat : Int)
theorem ints_length (l : List UInt8) : (ints l).length = l.length := by simp [ints]
theorem ints_get (l : List UInt8) (i : Nat) : (ints l)[i]? = l[i]?.map fun c => .int .u8 (c.toNat : Int) := by simp [ints]
theorem ints_append (l m : List UInt8) : ints (l ++ m) = ints l ++ ints m := by simp [ints]
theorem ints_get_lt {l : List UInt8} {i : Nat} (h : i < l.length) : (ints l)[i]? = some (.int .u8 ((l.getD i 0).toNat : Int)) := by
 rw [ints_get]; simp [List.getElem?_eq_getElem h, List.getD_eq_getElem?_getD]
theorem ints_one {l : List UInt8} : ∀ u ∈ ints l, oneV u = true := by
 intro u hu
 obtain ⟨c, _, rfl⟩ := List.mem_map.1 hu
 rfl
def Rd (b : Base) (S : List SH) (a : Addr) (vs : List Value) : Prop := ∀ w, Sig b S w → ∀ j u, vs[j]? = some u → w.cell? (a.add j) = some u
theorem rd_own {g off n : Nat} {l vs : List Value} {e : TypeId} {fz : Nat × Nat} (k : Nat) (hk : S[k]? = some [(g, .cells l.toArray e fz)]) (h : (l.drop off).take n = vs) : Rd b S ⟨g, off, none⟩ vs := fun w hw j u hu => by
 subst h
 rw [add_off, cell_of (hw.at_ hk)]
 rw [List.getElem?_take] at hu
 split at hu
 ·rwa [List.getElem?_drop] at hu
 ·cases hu
theorem rd_ro {a : Addr} {vs : List Value} (h : ∀ j u, vs[j]? = some u → b.w0.cell? (a.add j) = some u) (hD : a.block ∉ b.D) : Rd b S a vs := fun w hw j u hu => by
 refine hw.ro (h j u hu) ?_
 have : (a.add j).block = a.block := by unfold Addr.add; split <;> rfl
 rwa [this]
theorem add_zero_ (a : Addr) : a.add 0 = a := by unfold Addr.add; simp
theorem qs_loadR {t : TypeId} {d : TypeDesc} {x : Operand} {a : Addr} {vs : List Value} {i : Nat} (hr : Rd b S a vs) (hu : P.underlying t = some d) (hd : flat d = true) (hx : ev env x = .pointer (some (a.add i))) (hi : vs[i]? = some v) : QS P (O (.load t x) ty) env b S v := qs_val fun w hw => by
 have h := hr w hw i v hi
 simp only [O, execOp, hx, Instr.loadAt, Instr.sureAddr, Sem.run_bind, Sem.run_pure, Result.andThen_ok, run_loadVar_flat hu hd h]
def Own (e : TypeId) (sz : Nat) (xs : List Value) (v : Value) (c : SH) : Prop :=
 (v = .slice none 0 0 ∧ xs = [] ∧ c = []) ∨ ∃ g n cap rest fz, v = .slice (some ⟨g, 0, none⟩) n cap ∧ c = [(g, .cells (xs ++ rest).toArray e fz)] ∧ xs.length = n * sz ∧ (xs ++ rest).length = cap * sz ∧ n ≤ cap ∧ ∀ j, j < (xs ++ rest).length → ¬ (fz.1 ≤ j ∧ j < fz.2)
theorem own_nil {e : TypeId} {sz : Nat} : Own e sz [] (.slice none 0 0) [] := .inl ⟨rfl, rfl, rfl⟩
def Src (b : Base) (S : List SH) (sz : Nat) (y : Value) (m : Nat) (news : List Value) : Prop :=
 (∃ a c, y = .slice (some a) m c ∧ Rd b S a news ∧ news.length = m * sz) ∨ (∃ c, y = .slice none m c ∧ m = 0 ∧ news = []) ∨ ∃ l, y = .string (bs l) ∧ sz = 1 ∧ news = ints l ∧ m = l.length
theorem src_sl {a : Addr} {c m sz : Nat} {news : List Value} (h : Rd b S a news) (hl : news.length = m * sz) : Src b S sz (.slice (some a) m c) m news := .inl ⟨a, c, rfl, h, hl⟩
theorem src_own {e : TypeId} {sz : Nat} {xs : List Value} {c : SH} (k : Nat) (h : Own e sz xs v c) (hk : S[k]? = some c) : ∃ m, Src b S sz v m xs ∧ xs.length = m * sz := by
 rcases h with ⟨rfl, rfl, rfl⟩ | ⟨g, n, cap, rest, fz, rfl, rfl, h1, h2, h3, h4⟩
 ·exact ⟨0, .inr (.inl ⟨0, rfl, rfl, rfl⟩), by simp⟩
 ·exact ⟨n, .inl ⟨_, _, rfl, rd_own (n := xs.length) k hk (by simp), h1⟩, h1⟩
theorem src_len {sz m : Nat} {y : Value} {news : List Value} (h : Src b S sz y m news) : news.length = m * sz := by
 rcases h with ⟨a, c, rfl, _, h⟩ | ⟨c, rfl, rfl, rfl⟩ | ⟨l, rfl, rfl, rfl, rfl⟩
 ·exact h
 ·simp
 ·simp [ints_length]
theorem Sig.tomb {b : Base} {S : List SH} {w : World} (h : Sig b S w) {k : Nat} {c : SH} (hk : S[k]? = some c) : Sig b (S.set k []) w := by
 obtain ⟨r, h1, h2⟩ := flatten_set hk []
 refine ⟨h.os, h.tape, h.output, h.size, fun p hp => h.own p (h1.mem_iff.2 (List.mem_append_right _ (h2.mem_iff.1 hp))), ?_, fun j hj => ?_, h.frame⟩
 ·have := (h1.map Prod.fst).nodup_iff.1 h.nodup
  rw [List.map_append, List.nodup_append] at this
  exact (h2.map Prod.fst).nodup_iff.2 this.2.1
 ·refine h.dom_ j ((h1.map Prod.fst).mem_iff.2 ?_)
  rw [List.map_append]
  exact List.mem_append_right _ ((h2.map Prod.fst).mem_iff.1 hj)
theorem Sig.swap {b : Base} {S : List SH} {w w' : World} (h : Sig b S w) {k : Nat} {c : SH} (hk : S[k]? = some c) {o : Obj} (hos : w'.os = w.os) (ht : w'.tape = w.tape) (hou : w'.output = w.output) (hh : w'.heap = w.heap.push o) : Sig b (S.set k [(w.heap.size, o)]) w' := by
 have h1 := ((h.tomb hk).new hos ht hou hh).1
 obtain ⟨r, p1, p2⟩ := flatten_set hk [(w.heap.size, o)]
 obtain ⟨r', q1, q2⟩ := flatten_set (S := S.set k []) (k := k) (c := []) (by
  have := (List.getElem?_eq_some_iff.1 hk).1
  simp [this]) [(w.heap.size, o)]
 simp only [List.set_set, List.nil_append] at q1 q2
 refine h1.perm ?_
 simp only [List.flatten_cons]
 exact (q1.append_left _).trans q2.symm
theorem run_lenOf {sz m : Nat} {y : Value} {news : List Value} (h : Src b S sz y m news) (w : World) : (Builtin.lenOf y).run P w = .ok m w := by
 rcases h with ⟨a, c, rfl, _, h⟩ | ⟨c, rfl, rfl, rfl⟩ | ⟨l, rfl, rfl, rfl, rfl⟩ <;> simp only [Builtin.lenOf, Sem.run_pure, bs_size]
theorem run_firsts {sz m : Nat} {y : Value} {news : List Value} (h : Src b S sz y m news) {w : World} (hw : Sig b S w) : (Builtin.firstCells sz m y).run P w = .ok news.toArray w := by
 rcases h with ⟨a, c, rfl, hr, hl⟩ | ⟨c, rfl, rfl, rfl⟩ | ⟨l, rfl, rfl, rfl, rfl⟩
 ·exact run_firstCells_some w sz m a m c news hl (hr w hw)
 ·simp only [Builtin.firstCells, Sem.run_pure]
 ·simp only [Builtin.firstCells, Sem.run_pure, bs_extract]
  congr 1
  apply Array.ext'
  simp [ints, bs]
theorem j_append {t t' e : TypeId} {x y : Operand} {sz by_ m : Nat} {xs news : List Value} {c : SH} {d : TypeDesc} (k : Nat) (ht : P.underlying t = some (.slice e)) (ht' : P.underlying t' = some d) (hd : d = .string ∨ ∃ e', d = .slice e') (hi : (P.info? e).map (fun i => (i.size, i.bytes)) = some (sz, by_)) {z : List Value} (hz : zeroL P e = some z) (hzl : z.length = sz)
  (hx : Own e sz xs (ev env x) c) (hk : S[k]? = some c) (hy : Src b S sz (ev env y) m news) (h1 : ∀ u ∈ news, oneV u = true) (hb : (xs.length + news.length) * (by_ + 1) ≤ 140737488355328 ∧ 0 < sz)
  (h : ∀ v' c', Own e sz (xs ++ news) v' c' → J P R T (v' :: env) (S.set k c') b B) : J P R (.op (O (.call ⟨.builtin .append, #[x, y], #[t, t']⟩) ty) T) env S b B := fun w hw => by
 rcases hd with rfl | ⟨e', rfl⟩
 all_goals (
  obtain ⟨i, hi', hsb⟩ := Option.map_eq_some_iff.1 hi
  obtain ⟨rfl, rfl⟩ : i.size = sz ∧ i.bytes = by_ := by simpa using hsb
  obtain ⟨zv, hzv, hrunz⟩ := run_zero_ok hz
  obtain ⟨hb, hsz⟩ := hb
  have hml := src_len hy
  have hsize : ∀ w, (sizeOf e).run P w = .ok i.size w := run_sizeOf_ok (by rw [hi']; rfl)
  have hinfo : ∀ w, (typeInfo e).run P w = .ok i w := fun w => by simp only [typeInfo, program, Sem.run_bind, Sem.run, Result.andThen_ok, hi']; simp only [Sem.run_pure]
  have hgo : ∀ v' w' c', Own e i.size (xs ++ news) v' c' → Sig b (S.set k c') w' → (Builtin.append_ #[t, t'] ty #[ev env x, ev env y]).run P w = .ok v' w' → opW P (O (.call ⟨.builtin .append, #[x, y], #[t, t']⟩) ty) env w R fun v w' => W P R T (v :: env) w' (B.map (lift b)) := fun v' w' c' ho hs hr => by
   unfold opW
   have e1 : (execOp (ev env) (O (.call ⟨.builtin .append, #[x, y], #[t, t']⟩) ty)).run P w = .ok (.value v') w' := by
    simp [O, execOp, resolve, invoke, builtin, Sem.run_bind, Sem.run_pure, Result.andThen_ok, hr]
   rw [e1]
   exact h v' c' ho w' hs
  show opW _ _ _ _ _ _
  have hmle : m ≤ news.length := by rw [hml]; exact Nat.le_mul_of_pos_right _ hsz
  have hsum : xs.length + news.length ≤ 140737488355328 := Nat.le_trans (Nat.le_mul_of_pos_right _ (by omega)) hb
  -- a new row
  have grow : ∀ (n cap : Nat) (A : Option Addr), ev env x = .slice A n cap → cap < n + m → xs.length = n * i.size → (∀ w, Sig b S w → (Builtin.firstCells i.size n (.slice A n cap)).run P w = .ok xs.toArray w) →
    opW P (O (.call ⟨.builtin .append, #[x, y], #[t, t']⟩) ty) env w R fun v w' => W P R T (v :: env) w' (B.map (lift b)) := by
   intro n cap A hxe hc hxl hfirst
   have hnle : n ≤ xs.length := by rw [hxl]; exact Nat.le_mul_of_pos_right _ hsz
   have h48 : ¬ (Builtin.nextslicecap (n + m) cap * i.bytes > 2 ^ 48) := by
    have := growslice_fits (need := n + m) (old := cap) (bytes := i.bytes) hc (by
     refine Nat.le_trans (Nat.mul_le_mul_right _ (by omega : n + m ≤ xs.length + news.length)) (Nat.le_trans (Nat.mul_le_mul_left _ (Nat.le_succ _)) hb))
    omega
   have h63 : ¬ ((((n + m : Nat) : Int) > IntKind.i64.max) ∧ (False ∨ i.bytes = 0)) := by
    have : IntKind.i64.max = 9223372036854775807 := rfl
    rw [this]; omega
   have hge := grownCap_ge w (n + m) cap e
   refine hgo (.slice (some ⟨w.heap.size, 0, none⟩) (n + m) (grownCap w (n + m) cap e)) (w.drew.alloc (.cells ((xs ++ news) ++ (Builtin.zeroCells zv.cells (grownCap w (n + m) cap e - (n + m))).toList).toArray e)) _ (.inr ⟨w.heap.size, n + m, grownCap w (n + m) cap e, (Builtin.zeroCells zv.cells (grownCap w (n + m) cap e - (n + m))).toList, (0, 0), rfl, rfl, ?_, ?_, hge, fun _ _ h => by omega⟩) ?_ ?_
   ·rw [List.length_append, hxl, hml, Nat.add_mul]
   ·rw [List.length_append, List.length_append, hxl, hml, Array.length_toList, size_zeroCells, hzv, List.size_toArray, hzl, ← Nat.add_mul, ← Nat.add_mul]
    congr 1
    omega
   ·exact hw.swap hk rfl rfl rfl rfl
   ·have f1 := hfirst w.drew hw.drew
    have f2 := run_firsts (P := P) hy (w := w.drew) hw.drew
    rw [hxe]
    have hroom : ¬ (n + m ≤ cap) := by omega
    have e1 : ∀ (b : Bool) (w : World), (if b = true then (mark Mark.noRoom : Sem PUnit) else pure ()).run P w = .ok ⟨⟩ w := fun b w => by cases b <;> rfl
    have e2 : ∀ (n : Nat) (w : World), (askRoom n).run P w = .ok () w := fun n w => by unfold askRoom; split <;> rfl
    simp only [Builtin.append_, List.getElem?_toArray, List.getElem?_cons_zero, List.getElem?_cons_succ, Sem.run_bind, run_underlying_ok ht, run_underlying_ok ht', Result.andThen_ok, hsize, Sem.run_pure, run_lenOf hy, hinfo]
    simp only [Bool.false_eq_true, if_false, run_lenOf hy, Result.andThen_ok, if_neg hroom, hinfo, Sem.run_bind, Bool.not_false, if_true, if_neg h48, if_neg h63]
    simp only [choose, Sem.run, Question.forced, Bool.false_eq_true, if_false, Result.andThen_ok, Sem.run_bind, e2]
    show ((Builtin.firstCells i.size n (Value.slice A n cap)).run P w.drew).andThen _ = _
    rw [f1]
    simp only [Result.andThen_ok, Sem.run_bind, f2, hrunz, newRow, Sem.run_pure]
    simp only [newObj, Sem.run, Result.andThen_ok]
    simp only [grownCap, Question.cut, Array.toList_append, List.append_assoc]
    congr 1
    simp only [World.alloc, World.drew]
    congr 2
    congr 1
    apply Array.ext'
    simp
  rcases hx with ⟨hxe, rfl, rfl⟩ | ⟨g, n, cap, rest, fz, hxe, rfl, hxl, hcl, hnc, hfz⟩
  ·by_cases hm : m = 0
   ·subst hm
    have hn : news = [] := List.eq_nil_of_length_eq_zero (by simpa using hml)
    subst hn
    have hs : S.set k [] = S := by
     obtain ⟨hlt, he⟩ := List.getElem?_eq_some_iff.1 hk
     have := List.set_getElem_self hlt
     rwa [he] at this
    refine hgo (.slice none 0 0) w [] own_nil (by rw [hs]; exact hw) ?_
    rw [hxe]
    simp only [Builtin.append_, List.getElem?_toArray, List.getElem?_cons_zero, List.getElem?_cons_succ, Sem.run_bind, run_underlying_ok ht, run_underlying_ok ht', Result.andThen_ok, hsize, Sem.run_pure]
    simp only [Bool.false_eq_true, if_false, run_lenOf hy, Result.andThen_ok, Nat.add_zero, Nat.le_refl, if_true, Bool.not_false, run_firsts (P := P) hy hw, Sem.run_bind, Sem.run_pure]
   ·exact grow 0 0 none hxe (by omega) (by simp) (fun w _ => by simp only [Builtin.firstCells, Sem.run_pure])
  ·by_cases hroom : n + m ≤ cap
   ·have hgb := hw.at_ hk
    have hfit : n * i.size + 0 + news.length ≤ (xs ++ rest).length := by
     rw [hcl, hml, Nat.add_zero, ← Nat.add_mul]
     exact Nat.mul_le_mul_right _ hroom
    obtain ⟨w', e1, e2, e3, e4, e5, e6, e7⟩ := run_storeCells_ok (P := P) news (n * i.size) 0 (xs ++ rest) w hgb hfit (fun j _ hj => hfz j (by omega)) h1
    have hE : (xs ++ rest).take (n * i.size + 0) ++ news ++ (xs ++ rest).drop (n * i.size + 0 + news.length) = (xs ++ news) ++ rest.drop news.length := by
     rw [Nat.add_zero, ← hxl, List.take_left', List.drop_append, List.drop_of_length_le (by omega)]
     ·simp
     ·rfl
    rw [hE] at e6
    refine hgo (.slice (some ⟨g, 0, none⟩) (n + m) cap) w' [(g, .cells ((xs ++ news) ++ rest.drop news.length).toArray e fz)] (.inr ⟨g, n + m, cap, rest.drop news.length, fz, rfl, rfl, ?_, ?_, hroom, fun j hj => hfz j ?_⟩) (hw.set hk e2 e3 e4 e5 e6 e7) ?_
    ·rw [List.length_append, hxl, hml, Nat.add_mul]
    ·rw [← hcl]
     simp only [List.length_append, List.length_drop] at hfit hcl ⊢
     omega
    ·simp only [List.length_append, List.length_drop] at hfit hj ⊢
     omega
    ·rw [hxe]
     simp only [Builtin.append_, List.getElem?_toArray, List.getElem?_cons_zero, List.getElem?_cons_succ, Sem.run_bind, run_underlying_ok ht, run_underlying_ok ht', Result.andThen_ok, hsize, Sem.run_pure]
     simp only [Bool.false_eq_true, if_false, run_lenOf hy, Result.andThen_ok, if_pos hroom, Bool.not_false, if_true, run_firsts (P := P) hy hw, add_off, Nat.zero_add, Sem.run_bind]
     have e1' : (storeCells ⟨g, n * i.size, none⟩ news.toArray.toList).run P w = .ok () w' := e1
     rw [e1']
     rfl
   ·refine grow n cap (some ⟨g, 0, none⟩) hxe (by omega) hxl (fun w hw => ?_)
    exact run_firstCells_some w i.size n _ n cap xs hxl (fun j u hu => by
     rw [add_off, Nat.zero_add, cell_of (hw.at_ hk)]
     rw [List.getElem?_append_left (List.getElem?_eq_some_iff.1 hu).1]
     exact hu))
theorem own_rd {e : TypeId} {sz n cap : Nat} {xs : List Value} {a : Addr} {c : SH} (h : Own e sz xs (.slice (some a) n cap) c) (k : Nat) (hk : S[k]? = some c) : Rd b S a xs := by
 rcases h with ⟨h, _⟩ | ⟨g, n', cap', rest, fz, h, rfl, h1, h2, h3, h4⟩
 ·cases h
 ·cases h
  exact rd_own (n := xs.length) k hk (by simp)
theorem own_row {e : TypeId} {sz n cap : Nat} {xs : List Value} {g : Nat} {c : SH} (h : Own e sz xs (.slice (some ⟨g, 0, none⟩) n cap) c) : ∃ rest fz, c = [(g, .cells (xs ++ rest).toArray e fz)] ∧ xs.length = n * sz ∧ (xs ++ rest).length = cap * sz ∧ n ≤ cap ∧ ∀ j, j < (xs ++ rest).length → ¬ (fz.1 ≤ j ∧ j < fz.2) := by
 rcases h with ⟨h, _⟩ | ⟨g', n', cap', rest, fz, h, rfl, h1, h2, h3, h4⟩
 ·cases h
 ·cases h
  exact ⟨rest, fz, rfl, h1, h2, h3, h4⟩
theorem own_form {e : TypeId} {sz : Nat} {xs : List Value} {v : Value} {c : SH} (h : Own e sz xs v c) (hz : 0 < sz) : ∃ n A cap, v = .slice A n cap ∧ xs.length = n * sz := by
 rcases h with ⟨rfl, rfl, rfl⟩ | ⟨g', n', cap', rest, fz, rfl, rfl, h1, h2, h3, h4⟩
 ·exact ⟨0, none, 0, rfl, by simp⟩
 ·exact ⟨n', _, _, rfl, h1⟩
theorem qs_str {t t' e : TypeId} {x : Operand} {l : List UInt8} {a : Addr} {c : Nat} (hs : P.underlying t = some (.slice e)) (he : P.underlying e = some (.int .u8)) (hd : P.underlying t' = some .string) (hx : ev env x = .slice (some a) l.length c) (hr : Rd b S a (ints l)) :
  QS P (O (.convert t t' x) ty) env b S (.string (bs l)) := qs_val fun w hw => by
 have := run_convert_bytes_back (P := P) w t t' e a c l hs he hd (fun j hj => by
  refine hr w hw j _ ?_
  rw [ints_get, List.getElem?_eq_getElem hj]; rfl)
 simp only [O, execOp, hx, Sem.run_bind, this, Result.andThen_ok, Sem.run_pure]
 rfl
theorem qs_strn {t t' e : TypeId} {x : Operand} {c n : Nat} (hs : P.underlying t = some (.slice e)) (he : P.underlying e = some (.int .u8)) (hd : P.underlying t' = some .string) (hx : ev env x = .slice none n c) :
  QS P (O (.convert t t' x) ty) env b S (.string (bs [])) := qs_run fun w => by
 simp only [O, execOp, hx, convert, Sem.run_bind, run_underlying_ok hs, run_underlying_ok hd, run_underlying_ok he, Result.andThen_ok, Conv.bytesToString, Sem.run_pure]
 rfl
theorem qs_cuta {t e : TypeId} {lo hi : Option Operand} {x : Operand} {a z n sz g off : Nat} (ht : P.underlying t = some (.array n e)) (hz : (P.info? e).map (·.size) = some sz) (hx : ev env x = .pointer (some ⟨g, off, none⟩)) (hlo : bd env lo a 0) (hhi : bd env hi z n) (h1 : a ≤ z) (h2 : z ≤ n) :
  QS P (O (.slice t x lo hi none) ty) env b S (.slice (some ⟨g, if n = a then off else off + a * sz, none⟩) (z - a) (n - a)) := qs_run fun w => by
 simp only [O, execOp, hx, Instr.sliceAt, Instr.sureAddr, Option.map_none, Sem.run_bind, Sem.run_pure, Result.andThen_ok, run_underlying_ok ht]
 rw [run_bounds hlo hhi h1 h2]
 simp only [Result.andThen_ok, Sem.run_pure, run_sizeOf_ok hz, Sem.run_bind, add_off]
 split <;> rfl
theorem qs_ixv {t e : TypeId} {x y : Operand} {n : Nat} {vs : List Value} {k : IntKind} {m : Int} {d : TypeDesc} (ht : P.underlying t = some (.array n e)) (hu : P.underlying e = some d) (hd : flat d = true) (hx : ev env x = .agg vs.toArray) (hz : (P.info? e).map (·.size) = some 1) (hy : ev env y = .int k m) (h : 0 ≤ m ∧ m < n) (hi : vs[m.toNat]? = some v) :
  QS P (O (.index t x y) ty) env b S v := qs_run fun w => by
 have hag : ∀ w, (isAgg e).run P w = .ok false w := fun w => by
  simp only [isAgg, Sem.run_bind, run_underlying_ok hu, Result.andThen_ok]
  cases d <;> first | rfl | cases hd
 have hg : vs.toArray[m.toNat * 1]? = some v := by simpa using hi
 simp only [O, execOp, hx, hy, Instr.index, asIntOf, Sem.run_bind, Sem.run_pure, Result.andThen_ok, run_underlying_ok ht]
 rw [if_pos h]
 simp only [Sem.run_bind, run_sizeOf_ok hz, Result.andThen_ok, part, hag, Bool.false_eq_true, if_false, hg, Sem.run_pure]
theorem qs_min {t t' : TypeId} {x y : Operand} {k : IntKind} {m n : Int} (hx : ev env x = .int k m) (hy : ev env y = .int k n) : QS P (O (.call ⟨.builtin .min, #[x, y], #[t, t']⟩) ty) env b S (.int k (min m n)) := qs_run fun w => by
 have : (if n < m then n else m) = min m n := by omega
 simp [O, execOp, resolve, invoke, hx, hy, builtin, Builtin.min_, Builtin.min2, Sem.run_bind, Sem.run_pure, Result.andThen_ok, this]
theorem qs_max {t t' : TypeId} {x y : Operand} {k : IntKind} {m n : Int} (hx : ev env x = .int k m) (hy : ev env y = .int k n) : QS P (O (.call ⟨.builtin .max, #[x, y], #[t, t']⟩) ty) env b S (.int k (max m n)) := qs_run fun w => by
 have : (if n > m then n else m) = max m n := by omega
 simp [O, execOp, resolve, invoke, hx, hy, builtin, Builtin.max_, Builtin.max2, Sem.run_bind, Sem.run_pure, Result.andThen_ok, this]
end Go.Sx
/-! Sx7 -/
namespace Go.Sx
open Go
set_option linter.unusedVariables false
set_option linter.unusedSimpArgs false
variable {P : Program} {R : Ending → World → Prop} {env : Env} {b : Base} {S : List SH} {B : JB} {T : Tree} {v : Value} {ty : TypeId}
def ks (k : IntKind) (l : List Int) : List Value := l.map (Value.int k)
theorem ks_length (k : IntKind) (l : List Int) : (ks k l).length = l.length := by simp [ks]
theorem ks_get {k : IntKind} {l : List Int} {i : Nat} (h : i < l.length) : (ks k l)[i]? = some (.int k (l.getD i 0)) := by
 simp [ks, List.getElem?_eq_getElem h, List.getD_eq_getElem?_getD]
theorem ks_set (k : IntKind) (l : List Int) (i : Nat) (x : Int) : (ks k l).set i (.int k x) = ks k (l.set i x) := by simp [ks, List.map_set]
theorem ks_one {k : IntKind} {l : List Int} : ∀ u ∈ ks k l, oneV u = true := by
 intro u hu
 obtain ⟨c, _, rfl⟩ := List.mem_map.1 hu
 rfl
theorem ints_set (l : List UInt8) (i : Nat) (c : UInt8) : (ints l).set i (.int .u8 (c.toNat : Int)) = ints (l.set i c) := by simp [ints, List.map_set]
def by8 (z : Int) : UInt8 := UInt8.ofNat (IntKind.u8.wrap z).toNat
theorem wrap_by8 (z : Int) : IntKind.u8.wrap z = ((by8 z).toNat : Int) := by
 have h : 0 ≤ IntKind.u8.wrap z ∧ IntKind.u8.wrap z < 256 := by
  rw [IntKind.wrap_u8]; omega
 simp only [by8, UInt8.toNat_ofNat']
 omega
section
variable {t t' : TypeId} {x y : Operand}
theorem qs_conv8 {d : TypeDesc} {k : IntKind} {m : Int} (hs : P.underlying t = some d) (hd : P.underlying t' = some (.int .u8)) (hx : ev env x = .int k m) : QS P (O (.convert t t' x) ty) env b S (.int .u8 ((by8 m).toNat : Int)) := by
 have := qs_conv (P := P) (b := b) (S := S) (ty := ty) hs hd hx
 rwa [wrap_by8] at this
theorem qs_ix0 {e : TypeId} {n g : Nat} {k : IntKind} {m : Int} (ht : P.underlying t = some (.array n e)) (hz : (P.info? e).map (·.size) = some 1) (hx : ev env x = .pointer (some ⟨g, 0, none⟩)) (hy : ev env y = .int k m) (h : 0 ≤ m ∧ m < n) :
  QS P (O (.indexAddr t x y) ty) env b S (.pointer (some ⟨g, m.toNat, none⟩)) := by
 have := qs_ixa (P := P) (b := b) (S := S) (ty := ty) ht hz hx hy h.1 h.2
 simpa using this
theorem qs_ixl0 {e : TypeId} {n c : Nat} {a : Addr} {k : IntKind} {m : Int} (ht : P.underlying t = some (.slice e)) (hz : (P.info? e).map (·.size) = some 1) (hx : ev env x = .slice (some a) n c) (hy : ev env y = .int k m) (h : 0 ≤ m ∧ m < n) :
  QS P (O (.indexAddr t x y) ty) env b S (.pointer (some (a.add m.toNat))) := by
 have := qs_ixl (P := P) (b := b) (S := S) (ty := ty) ht hz hx hy h.1 h.2
 simpa using this
theorem qs_ixg {e : TypeId} {n c g : Nat} {k : IntKind} {m : Int} (ht : P.underlying t = some (.slice e)) (hz : (P.info? e).map (·.size) = some 1) (hx : ev env x = .slice (some ⟨g, 0, none⟩) n c) (hy : ev env y = .int k m) (h : 0 ≤ m ∧ m < n) :
  QS P (O (.indexAddr t x y) ty) env b S (.pointer (some ⟨g, m.toNat, none⟩)) := by
 have := qs_ixl (P := P) (b := b) (S := S) (ty := ty) ht hz hx hy h.1 h.2
 simpa [add_off] using this
theorem qs_loadk {kd : IntKind} {g i : Nat} {ws : List Int} {e : TypeId} {fz : Nat × Nat} (k : Nat) (hu : P.underlying t = some (.int kd)) (hx : ev env x = .pointer (some ⟨g, i, none⟩)) (hk : S[k]? = some [(g, .cells (ks kd ws).toArray e fz)]) (hi : i < ws.length) :
  QS P (O (.load t x) ty) env b S (.int kd (ws.getD i 0)) := qs_load k hu rfl hx hk (ks_get hi)
theorem qs_loadi {g i : Nat} {l : List UInt8} {e : TypeId} {fz : Nat × Nat} (k : Nat) (hu : P.underlying t = some (.int .u8)) (hx : ev env x = .pointer (some ⟨g, i, none⟩)) (hk : S[k]? = some [(g, .cells (ints l).toArray e fz)]) (hi : i < l.length) :
  QS P (O (.load t x) ty) env b S (.int .u8 ((l.getD i 0).toNat : Int)) := qs_load k hu rfl hx hk (ints_get_lt hi)
theorem qs_loadr8 {a : Addr} {l : List UInt8} {i : Nat} (hr : Rd b S a (ints l)) (hu : P.underlying t = some (.int .u8)) (hx : ev env x = .pointer (some (a.add i))) (hi : i < l.length) :
  QS P (O (.load t x) ty) env b S (.int .u8 ((l.getD i 0).toNat : Int)) := qs_loadR hr hu rfl hx (ints_get_lt hi)
theorem qs_loadrk {kd : IntKind} {a : Addr} {l : List Int} {i : Nat} (hr : Rd b S a (ks kd l)) (hu : P.underlying t = some (.int kd)) (hx : ev env x = .pointer (some (a.add i))) (hi : i < l.length) :
  QS P (O (.load t x) ty) env b S (.int kd (l.getD i 0)) := qs_loadR hr hu rfl hx (ks_get hi)
theorem j_storek {kd : IntKind} {g i : Nat} {ws : List Int} {z : Int} {e : TypeId} (k : Nat) (hz : (P.info? t).map (·.size) = some 1) (hx : ev env x = .pointer (some ⟨g, i, none⟩)) (hy : ev env y = .int kd z)
  (hk : S[k]? = some [(g, .cells (ks kd ws).toArray e (0, 0))]) (hi : i < ws.length) (h : J P R T (undef :: env) (S.set k [(g, .cells (ks kd (ws.set i z)).toArray e (0, 0))]) b B) : J P R (.op (O (.store t x y) ty) T) env S b B := by
 refine j_store k hz hx hy rfl hk (by rwa [ks_length]) (fun h => by omega) ?_
 rwa [ks_set]
theorem j_storei {g i : Nat} {l : List UInt8} {c : UInt8} {e : TypeId} (k : Nat) (hz : (P.info? t).map (·.size) = some 1) (hx : ev env x = .pointer (some ⟨g, i, none⟩)) (hy : ev env y = .int .u8 (c.toNat : Int))
  (hk : S[k]? = some [(g, .cells (ints l).toArray e (0, 0))]) (hi : i < l.length) (h : J P R T (undef :: env) (S.set k [(g, .cells (ints (l.set i c)).toArray e (0, 0))]) b B) : J P R (.op (O (.store t x y) ty) T) env S b B := by
 refine j_store k hz hx hy rfl hk (by rwa [ints_length]) (fun h => by omega) ?_
 rwa [ints_set]
theorem qs_ixvk {e : TypeId} {n : Nat} {kd : IntKind} {ws : List Int} {k : IntKind} {m : Int} (ht : P.underlying t = some (.array n e)) (hu : P.underlying e = some (.int kd)) (hz : (P.info? e).map (·.size) = some 1) (hx : ev env x = .agg (ks kd ws).toArray) (hy : ev env y = .int k m) (h : 0 ≤ m ∧ m < n) (hl : ws.length = n) :
  QS P (O (.index t x y) ty) env b S (.int kd (ws.getD m.toNat 0)) := qs_ixv ht hu rfl hx hz hy h (ks_get (by omega))
end
theorem qs_quou {t t' : TypeId} {x y : Operand} {k : IntKind} {m n : Int} (hx : ev env x = .int k m) (hy : ev env y = .int k n) (h0 : 0 ≤ m) (h1 : 0 < n) (hw : k.wrap (m / n) = m / n) : QS P (O (.binOp .quo t x y t') ty) env b S (.int k (m / n)) := by
 have := qs_quo (P := P) (b := b) (S := S) (t := t) (t' := t') (ty := ty) hx hy (by omega)
 rw [Int.tdiv_eq_ediv_of_nonneg h0] at this
 rwa [hw] at this
def Cells (w : World) (a : Addr) (vs : List Value) : Prop := ∀ j u, vs[j]? = some u → w.cell? (a.add j) = some u
theorem rd_cells {a : Addr} {vs : List Value} (h : Cells b.w0 a vs) (hD : a.block ∉ b.D) : Rd b S a vs := rd_ro h hD
theorem rd_w {a : Addr} {vs : List Value} (h : Rd b S a vs) {w : World} (hw : Sig b S w) : Cells w a vs := h w hw
theorem qs_loadro8 {t : TypeId} {x : Operand} {g i : Nat} {l : List UInt8} (hr : Rd b S ⟨g, 0, none⟩ (ints l)) (hu : P.underlying t = some (.int .u8)) (hx : ev env x = .pointer (some ⟨g, i, none⟩)) (hi : i < l.length) :
  QS P (O (.load t x) ty) env b S (.int .u8 ((l.getD i 0).toNat : Int)) := qs_loadr8 (i := i) hr hu (by rw [hx, add_off, Nat.zero_add]) hi
theorem rv_agg {t : TypeId} {d : TypeDesc} {g n i : Nat} {l : List Value} {e : TypeId} {fz : Nat × Nat} (k : Nat) (hu : P.underlying t = some d) (hd : flat d = false) (hz : (P.info? t).map (·.size) = some n) (hx : env.getD i undef = .pointer (some ⟨g, 0, none⟩))
  (hk : S[k]? = some [(g, .cells l.toArray e fz)]) (hl : l.length = n) {w : World} (hw : Sig b S w) : rvW P env w (.cell i t) (.agg l.toArray) := by
 refine ⟨_, hx, run_loadVar_agg hu hd hz hl fun j hj => ?_⟩
 rw [cell_of (hw.at_ hk), Nat.zero_add]
theorem j_drop {c : SH} (h : J P R T env S b B) : J P R T env (c :: S) b B := j_sub (by simp [List.flatten_cons]) h
theorem Sig.ne {w : World} (hw : Sig b S w) {i j : Nat} {g g' : Nat} {o o' : Obj} {r r' : SH} (hi : S[i]? = some ((g, o) :: r)) (hj : S[j]? = some ((g', o') :: r')) (hij : i ≠ j) : g ≠ g' := by
 obtain ⟨q, h1, h2⟩ := flatten_set hi []
 have hnd := (h1.map Prod.fst).nodup_iff.1 hw.nodup
 rw [List.map_append, List.nodup_append] at hnd
 intro e
 have hm : g' ∈ q.map Prod.fst := by
  have : (g', o') ∈ (S.set i []).flatten := List.mem_flatten.2 ⟨(g', o') :: r', List.mem_of_getElem? (i := j) (by rw [List.getElem?_set_ne hij]; exact hj), by simp⟩
  have := h2.mem_iff.1 this
  rw [List.nil_append] at this
  exact List.mem_map_of_mem (f := Prod.fst) this
 exact hnd.2.2 g (by simp) g' hm e
theorem own_some {e : TypeId} {sz : Nat} {xs : List Value} {v : Value} {c : SH} (h : Own e sz xs v c) (hn : xs ≠ []) : ∃ g n cap, v = .slice (some ⟨g, 0, none⟩) n cap := by
 rcases h with ⟨rfl, rfl, rfl⟩ | ⟨g', n', cap', rest, fz, rfl, rfl, h1, h2, h3, h4⟩
 ·exact absurd rfl hn
 ·exact ⟨_, _, _, rfl⟩
theorem list_getD_take {l : List Int} {i j : Nat} (h : j < i) : (l.take i).getD j 0 = l.getD j 0 := by
 rw [List.getD_eq_getElem?_getD, List.getElem?_take_of_lt h, ← List.getD_eq_getElem?_getD]
theorem take_set_succ {α : Type} {l : List α} {i : Nat} (h : i < l.length) (x : α) : (l.set i x).take (i + 1) = l.take i ++ [x] := by
 rw [List.take_succ_eq_append_getElem (by simpa using h), List.take_set_of_le (Nat.le_refl _), List.getElem_set_self]
def numd : Nat → List Value → List (Nat × Value)
 | _, [] => []
 | k, v :: r => (k, v) :: numd (k + 1) r
theorem fill_seq : ∀ (vs pre suf : List Value), (∀ v ∈ vs, oneV v = true) → vs.length ≤ suf.length → Instr.fill (fun i => some (i * 1, 1)) (pre ++ suf).toArray (numd pre.length vs) = some (pre ++ vs ++ suf.drop vs.length).toArray
 | [], pre, suf, _, _ => by simp [numd, Instr.fill]
 | v :: vs, pre, suf, hv, hl => by
  have hc : v.cells = #[v] := cells_of_one (hv v (by simp))
  have ih := fill_seq vs (pre ++ [v]) (suf.drop 1) (fun u hu => hv u (by simp [hu])) (by simp at hl ⊢; omega)
  simp only [numd, Instr.fill, hc]
  cases suf with
  | nil => simp at hl
  | cons x suf =>
   have h1 : ¬ ((#[v] : Array Value).size ≠ 1 || pre.length * 1 + (#[v] : Array Value).size > (pre ++ x :: suf).toArray.size) = true := by
    simp
   rw [if_neg h1]
   have h2 : (#[v] : Array Value).zipIdx.foldl (fun cs (c, j) => cs.setIfInBounds (pre.length * 1 + j) c) (pre ++ x :: suf).toArray = (pre ++ [v] ++ suf).toArray := by
    simp
   rw [h2]
   simpa using ih
theorem j_lit {t e : TypeId} {n : Nat} {parts : Array (Nat × Operand)} {vs : List Value} {z : Value} (ht : P.underlying t = some (.slice e)) (hz : (P.info? e).map (·.size) = some 1) (h0 : zeroL P e = some [z]) (hp' : parts.toList.map (fun p => (p.1, ev env p.2)) = numd 0 vs) (hv : ∀ v ∈ vs, oneV v = true) (hn : vs.length = n ∧ n ≤ 16777216)
  (h : ∀ g v' c', v' = .slice (some ⟨g, 0, none⟩) n n → c' = [(g, .cells vs.toArray e (0, 0))] → Own e 1 vs v' c' → J P R T (v' :: env) (c' :: S) b B) : J P R (.op (O (.buildSlice t n parts) ty) T) env S b B := fun w hw => by
 obtain ⟨zv, hzv, hrunz⟩ := run_zero_ok h0
 obtain ⟨hn, hn2⟩ := hn
 have hp : (parts.map fun p => (p.1, ev env p.2)).toList = numd 0 vs := by rw [Array.toList_map]; exact hp'
 have hrun : (execOp (ev env) (O (.buildSlice t n parts) ty)).run P w = .ok (.value (.slice (some ⟨w.heap.size, 0, none⟩) n n)) (w.alloc (.cells vs.toArray e)) := by
  have hgt : ¬ (n * 1 > 2 ^ 24) := by omega
  have hf : ∀ zs : Array Value, zs.size = n * 1 → Instr.fill (fun i => some (i * 1, 1)) zs (parts.map fun p => (p.1, ev env p.2)).toList = some vs.toArray := by
   intro zs hzs
   rw [hp]
   have := fill_seq vs [] zs.toList hv (by simp; omega)
   simp only [List.nil_append, List.length_nil, Array.toArray_toList] at this
   rw [this]
   congr 1
   have : zs.toList.drop vs.length = [] := List.drop_of_length_le (by simp; omega)
   rw [this, List.append_nil]
  simp only [O, execOp, Instr.buildSlice, Sem.run_bind, run_underlying_ok ht, Result.andThen_ok, run_sizeOf_ok hz, if_neg hgt]
  by_cases hn0 : n * 1 = 0
  ·simp only [if_pos hn0, Sem.run_pure, Result.andThen_ok, Sem.run_bind]
   rw [hf _ (by simp)]
   rfl
  ·simp only [if_neg hn0, Sem.run_bind, hrunz, Sem.run_pure, Result.andThen_ok]
   rw [hf _ (by simp)]
   rfl
 show opW _ _ _ _ _ _
 unfold opW
 rw [hrun]
 refine h w.heap.size _ _ rfl rfl (.inr ⟨w.heap.size, n, n, [], (0, 0), rfl, by simp, by omega, by simp; omega, Nat.le_refl _, fun _ _ h => by omega⟩) _ (hw.new (o := .cells vs.toArray e) (w' := w.alloc (.cells vs.toArray e)) rfl rfl rfl rfl).1
theorem run_equal {t : TypeId} {x y : Value} {r : Bool} {w : World} (h : ∀ d, (Op.equalIn (d + 1) t x y).run P w = .ok r w) : (Op.equal t x y).run P w = .ok r w := h 9999
theorem run_eq {op : BinOp} {t t' : TypeId} {x y : Operand} {u v : Value} {r : Bool} {w : World} (hop : op = .eql ∨ op = .neq) (hx : ev env x = u) (hy : ev env y = v) (hg : eqGuard op t x y u v = pure ()) (hu : ∀ k m, u ≠ .int k m) (hf : ∀ k m, u ≠ .float k m) (hc : ∀ k m n, u ≠ .complex k m n) (hs : ∀ m, u ≠ .string m)
  (h : ∀ d, (Op.equalIn (d + 1) t u v).run P w = .ok r w) : (execOp (ev env) (O (.binOp op t x y t') ty)).run P w = .ok (.value (.bool (if op = .eql then r else !r))) w := by
 simp only [O, execOp, hx, hy, hg, Sem.run_bind, Sem.run_pure, Result.andThen_ok]
 have he := run_equal h
 have hb : binOp op t u v = (match op with | .eql => (do pure (.bool (← Op.equal t u v))) | _ => (do pure (.bool (!(← Op.equal t u v))))) := by
  rcases hop with rfl | rfl <;> cases u <;> first | rfl | exact absurd rfl (hu _ _) | exact absurd rfl (hf _ _) | exact absurd rfl (hc _ _ _) | exact absurd rfl (hs _)
 rw [hb]
 rcases hop with rfl | rfl <;> simp [Sem.run_bind, he, Sem.run_pure, Result.andThen_ok]
theorem qs_slnil {t t' e : TypeId} {x : Operand} {A : Option Addr} {n c n' c' : Nat} (ht : P.underlying t = some (.slice e)) (hx : ev env x = .slice A n c) : QS P (O (.binOp .eql t x (.const (.slice none n' c')) t') ty) env b S (.bool A.isNone) := qs_run fun w => by
 refine run_eq (r := A.isNone) (.inl rfl) hx rfl (by unfold eqGuard; rfl) (fun _ _ h => by cases h) (fun _ _ h => by cases h) (fun _ _ _ h => by cases h) (fun _ h => by cases h) fun d => ?_
 simp only [Op.equalIn, Sem.run_bind, run_underlying_ok ht, Result.andThen_ok, ev]
 cases A <;> rfl
end Go.Sx
/-! Fc1 -/
namespace Go.Proofs.YtfebkkmmagbnlaaGreatDoor
open Go Go.Sx
set_option maxRecDepth 100000
theorem ent8 : Sx.Enters Tryz.prog 8 := ⟨_, Tryz.func8, by kernel_rfl, by kernel_rfl⟩
theorem ent10 : Sx.Enters Tryz.prog 10 := ⟨_, Tryz.func10, by kernel_rfl, by kernel_rfl⟩
theorem ent11 : Sx.Enters Tryz.prog 11 := ⟨_, Tryz.func11, by kernel_rfl, by kernel_rfl⟩
theorem ent12 : Sx.Enters Tryz.prog 12 := ⟨_, Tryz.func12, by kernel_rfl, by kernel_rfl⟩
theorem ent13 : Sx.Enters Tryz.prog 13 := ⟨_, Tryz.func13, by kernel_rfl, by kernel_rfl⟩
theorem ent14 : Sx.Enters Tryz.prog 14 := ⟨_, Tryz.func14, by kernel_rfl, by kernel_rfl⟩
theorem ent16 : Sx.Enters Tryz.prog 16 := ⟨_, Tryz.func16, by kernel_rfl, by kernel_rfl⟩
theorem ent17 : Sx.Enters Tryz.prog 17 := ⟨_, Tryz.func17, by kernel_rfl, by kernel_rfl⟩
theorem ent18 : Sx.Enters Tryz.prog 18 := ⟨_, Tryz.func18, by kernel_rfl, by kernel_rfl⟩
theorem ent19 : Sx.Enters Tryz.prog 19 := ⟨_, Tryz.func19, by kernel_rfl, by kernel_rfl⟩
theorem ent20 : Sx.Enters Tryz.prog 20 := ⟨_, Tryz.func20, by kernel_rfl, by kernel_rfl⟩
theorem ent21 : Sx.Enters Tryz.prog 21 := ⟨_, Tryz.func21, by kernel_rfl, by kernel_rfl⟩
theorem ent22 : Sx.Enters Tryz.prog 22 := ⟨_, Tryz.func22, by kernel_rfl, by kernel_rfl⟩
theorem ent23 : Sx.Enters Tryz.prog 23 := ⟨_, Tryz.func23, by kernel_rfl, by kernel_rfl⟩
end Go.Proofs.YtfebkkmmagbnlaaGreatDoor
/-! Fc2 -/
namespace Go.Proofs.YtfebkkmmagbnlaaGreatDoor
open Go Go.Sx
set_option maxRecDepth 100000
theorem ent30 : Sx.Enters Tryz.prog 30 := ⟨_, Tryz.func30, by kernel_rfl, by kernel_rfl⟩
theorem ent31 : Sx.Enters Tryz.prog 31 := ⟨_, Tryz.func31, by kernel_rfl, by kernel_rfl⟩
theorem ent33 : Sx.Enters Tryz.prog 33 := ⟨_, Tryz.func33, by kernel_rfl, by kernel_rfl⟩
theorem ent35 : Sx.Enters Tryz.prog 35 := ⟨_, Tryz.func35, by kernel_rfl, by kernel_rfl⟩
theorem ent36 : Sx.Enters Tryz.prog 36 := ⟨_, Tryz.func36, by kernel_rfl, by kernel_rfl⟩
theorem ent37 : Sx.Enters Tryz.prog 37 := ⟨_, Tryz.func37, by kernel_rfl, by kernel_rfl⟩
theorem ent38 : Sx.Enters Tryz.prog 38 := ⟨_, Tryz.func38, by kernel_rfl, by kernel_rfl⟩
theorem ent40 : Sx.Enters Tryz.prog 40 := ⟨_, Tryz.func40, by kernel_rfl, by kernel_rfl⟩
theorem ent41 : Sx.Enters Tryz.prog 41 := ⟨_, Tryz.func41, by kernel_rfl, by kernel_rfl⟩
theorem ent43 : Sx.Enters Tryz.prog 43 := ⟨_, Tryz.func43, by kernel_rfl, by kernel_rfl⟩
theorem ent44 : Sx.Enters Tryz.prog 44 := ⟨_, Tryz.func44, by kernel_rfl, by kernel_rfl⟩
theorem ent45 : Sx.Enters Tryz.prog 45 := ⟨_, Tryz.func45, by kernel_rfl, by kernel_rfl⟩
theorem ent46 : Sx.Enters Tryz.prog 46 := ⟨_, Tryz.func46, by kernel_rfl, by kernel_rfl⟩
theorem ent48 : Sx.Enters Tryz.prog 48 := ⟨_, Tryz.func48, by kernel_rfl, by kernel_rfl⟩
theorem ent51 : Sx.Enters Tryz.prog 51 := ⟨_, Tryz.func51, by kernel_rfl, by kernel_rfl⟩
end Go.Proofs.YtfebkkmmagbnlaaGreatDoor
/-! Fc3 -/
namespace Go.Proofs.YtfebkkmmagbnlaaGreatDoor
open Go Go.Sx
set_option maxRecDepth 100000
theorem ent52 : Sx.Enters Tryz.prog 52 := ⟨_, Tryz.func52, by kernel_rfl, by kernel_rfl⟩
theorem ent53 : Sx.Enters Tryz.prog 53 := ⟨_, Tryz.func53, by kernel_rfl, by kernel_rfl⟩
theorem ent66 : Sx.Enters Tryz.prog 66 := ⟨_, Tryz.func66, by kernel_rfl, by kernel_rfl⟩
theorem ent67 : Sx.Enters Tryz.prog 67 := ⟨_, Tryz.func67, by kernel_rfl, by kernel_rfl⟩
theorem ent70 : Sx.Enters Tryz.prog 70 := ⟨_, Tryz.func70, by kernel_rfl, by kernel_rfl⟩
theorem ent74 : Sx.Enters Tryz.prog 74 := ⟨_, Tryz.func74, by kernel_rfl, by kernel_rfl⟩
theorem ent80 : Sx.Enters Tryz.prog 80 := ⟨_, Tryz.func80, by kernel_rfl, by kernel_rfl⟩
theorem ent81 : Sx.Enters Tryz.prog 81 := ⟨_, Tryz.func81, by kernel_rfl, by kernel_rfl⟩
theorem sb3 : (Tryz.prog.info? 3).map (fun i => (i.size, i.bytes)) = some (1, 8) := by kernel_rfl
theorem sb92 : (Tryz.prog.info? 92).map (fun i => (i.size, i.bytes)) = some (2, 32) := by kernel_rfl
theorem sb105 : (Tryz.prog.info? 105).map (fun i => (i.size, i.bytes)) = some (2, 32) := by kernel_rfl
theorem sz48 : (Tryz.prog.info? 48).map (·.size) = some 1 := by kernel_rfl
theorem sz49 : (Tryz.prog.info? 49).map (·.size) = some 1 := by kernel_rfl
theorem sz55 : (Tryz.prog.info? 55).map (·.size) = some 3 := by kernel_rfl
end Go.Proofs.YtfebkkmmagbnlaaGreatDoor
/-! Fc4 -/
namespace Go.Proofs.YtfebkkmmagbnlaaGreatDoor
open Go Go.Sx
set_option maxRecDepth 100000
theorem sz65 : (Tryz.prog.info? 65).map (·.size) = some 256 := by kernel_rfl
theorem sz67 : (Tryz.prog.info? 67).map (·.size) = some 257 := by kernel_rfl
theorem sz68 : (Tryz.prog.info? 68).map (·.size) = some 1 := by kernel_rfl
theorem sz69 : (Tryz.prog.info? 69).map (·.size) = some 1 := by kernel_rfl
theorem sz74 : (Tryz.prog.info? 74).map (·.size) = some 1 := by kernel_rfl
theorem sz75 : (Tryz.prog.info? 75).map (·.size) = some 256 := by kernel_rfl
theorem sz76 : (Tryz.prog.info? 76).map (·.size) = some 256 := by kernel_rfl
theorem sz92 : (Tryz.prog.info? 92).map (·.size) = some 2 := by kernel_rfl
theorem sz105 : (Tryz.prog.info? 105).map (·.size) = some 2 := by kernel_rfl
theorem zero3 : zeroL Tryz.prog 3 = some ([.int .i64 0]) := by kernel_rfl
theorem zero92 : zeroL Tryz.prog 92 = some ([.bool false, .slice none 0 0]) := by kernel_rfl
theorem zero105 : zeroL Tryz.prog 105 = some ([.bool false, .slice none 0 0]) := by kernel_rfl
end Go.Proofs.YtfebkkmmagbnlaaGreatDoor
/-! Fe1 -/
namespace Go.Proofs.YtfebkkmmagbnlaaGreatDoor
open Go Go.Sx
set_option maxRecDepth 100000
theorem ent34 : Sx.Enters Tryz.prog 34 := ⟨_, Tryz.func34, by kernel_rfl, by kernel_rfl⟩
theorem ent69 : Sx.Enters Tryz.prog 69 := ⟨_, Tryz.func69, by kernel_rfl, by kernel_rfl⟩
theorem ent71 : Sx.Enters Tryz.prog 71 := ⟨_, Tryz.func71, by kernel_rfl, by kernel_rfl⟩
theorem ent68 : Sx.Enters Tryz.prog 68 := ⟨_, Tryz.func68, by kernel_rfl, by kernel_rfl⟩
theorem ent32 : Sx.Enters Tryz.prog 32 := ⟨_, Tryz.func32, by kernel_rfl, by kernel_rfl⟩
theorem ent92 : Sx.Enters Tryz.prog 92 := ⟨_, Tryz.func92, by kernel_rfl, by kernel_rfl⟩
theorem ent93 : Sx.Enters Tryz.prog 93 := ⟨_, Tryz.func93, by kernel_rfl, by kernel_rfl⟩
theorem ent64 : Sx.Enters Tryz.prog 64 := ⟨_, Tryz.func64, by kernel_rfl, by kernel_rfl⟩
theorem ent95 : Sx.Enters Tryz.prog 95 := ⟨_, Tryz.func95, by kernel_rfl, by kernel_rfl⟩
theorem ent89 : Sx.Enters Tryz.prog 89 := ⟨_, Tryz.func89, by kernel_rfl, by kernel_rfl⟩
theorem ent63 : Sx.Enters Tryz.prog 63 := ⟨_, Tryz.func63, by kernel_rfl, by kernel_rfl⟩
theorem ent65 : Sx.Enters Tryz.prog 65 := ⟨_, Tryz.func65, by kernel_rfl, by kernel_rfl⟩
end Go.Proofs.YtfebkkmmagbnlaaGreatDoor
/-! Fe2 -/
namespace Go.Proofs.YtfebkkmmagbnlaaGreatDoor
open Go Go.Sx
set_option maxRecDepth 100000
theorem ent116 : Sx.Enters Tryz.prog 116 := ⟨_, Tryz.func116, by kernel_rfl, by kernel_rfl⟩
theorem ent117 : Sx.Enters Tryz.prog 117 := ⟨_, Tryz.func117, by kernel_rfl, by kernel_rfl⟩
theorem ent115 : Sx.Enters Tryz.prog 115 := ⟨_, Tryz.func115, by kernel_rfl, by kernel_rfl⟩
theorem ent85 : Sx.Enters Tryz.prog 85 := ⟨_, Tryz.func85, by kernel_rfl, by kernel_rfl⟩
theorem ent62 : Sx.Enters Tryz.prog 62 := ⟨_, Tryz.func62, by kernel_rfl, by kernel_rfl⟩
theorem ent61 : Sx.Enters Tryz.prog 61 := ⟨_, Tryz.func61, by kernel_rfl, by kernel_rfl⟩
theorem ent120 : Sx.Enters Tryz.prog 120 := ⟨_, Tryz.func120, by kernel_rfl, by kernel_rfl⟩
theorem ent57 : Sx.Enters Tryz.prog 57 := ⟨_, Tryz.func57, by kernel_rfl, by kernel_rfl⟩
theorem ent88 : Sx.Enters Tryz.prog 88 := ⟨_, Tryz.func88, by kernel_rfl, by kernel_rfl⟩
theorem ent59 : Sx.Enters Tryz.prog 59 := ⟨_, Tryz.func59, by kernel_rfl, by kernel_rfl⟩
theorem ent90 : Sx.Enters Tryz.prog 90 := ⟨_, Tryz.func90, by kernel_rfl, by kernel_rfl⟩
theorem ent135 : Sx.Enters Tryz.prog 135 := ⟨_, Tryz.func135, by kernel_rfl, by kernel_rfl⟩
theorem ent107 : Sx.Enters Tryz.prog 107 := ⟨_, Tryz.func107, by kernel_rfl, by kernel_rfl⟩
theorem ent108 : Sx.Enters Tryz.prog 108 := ⟨_, Tryz.func108, by kernel_rfl, by kernel_rfl⟩
theorem ent109 : Sx.Enters Tryz.prog 109 := ⟨_, Tryz.func109, by kernel_rfl, by kernel_rfl⟩
theorem ent87 : Sx.Enters Tryz.prog 87 := ⟨_, Tryz.func87, by kernel_rfl, by kernel_rfl⟩
theorem ent86 : Sx.Enters Tryz.prog 86 := ⟨_, Tryz.func86, by kernel_rfl, by kernel_rfl⟩
theorem ent137 : Sx.Enters Tryz.prog 137 := ⟨_, Tryz.func137, by kernel_rfl, by kernel_rfl⟩
theorem ent84 : Sx.Enters Tryz.prog 84 := ⟨_, Tryz.func84, by kernel_rfl, by kernel_rfl⟩
theorem ent127 : Sx.Enters Tryz.prog 127 := ⟨_, Tryz.func127, by kernel_rfl, by kernel_rfl⟩
theorem ent128 : Sx.Enters Tryz.prog 128 := ⟨_, Tryz.func128, by kernel_rfl, by kernel_rfl⟩
end Go.Proofs.YtfebkkmmagbnlaaGreatDoor
/-! Fe3 -/
namespace Go.Proofs.YtfebkkmmagbnlaaGreatDoor
open Go Go.Sx
set_option maxRecDepth 100000
theorem ent111 : Sx.Enters Tryz.prog 111 := ⟨_, Tryz.func111, by kernel_rfl, by kernel_rfl⟩
theorem ent112 : Sx.Enters Tryz.prog 112 := ⟨_, Tryz.func112, by kernel_rfl, by kernel_rfl⟩
theorem ent113 : Sx.Enters Tryz.prog 113 := ⟨_, Tryz.func113, by kernel_rfl, by kernel_rfl⟩
theorem ent110 : Sx.Enters Tryz.prog 110 := ⟨_, Tryz.func110, by kernel_rfl, by kernel_rfl⟩
theorem ent130 : Sx.Enters Tryz.prog 130 := ⟨_, Tryz.func130, by kernel_rfl, by kernel_rfl⟩
theorem ent149 : Sx.Enters Tryz.prog 149 := ⟨_, Tryz.func149, by kernel_rfl, by kernel_rfl⟩
theorem ent129 : Sx.Enters Tryz.prog 129 := ⟨_, Tryz.func129, by kernel_rfl, by kernel_rfl⟩
theorem ent131 : Sx.Enters Tryz.prog 131 := ⟨_, Tryz.func131, by kernel_rfl, by kernel_rfl⟩
theorem sb90 : (Tryz.prog.info? 90).map (fun i => (i.size, i.bytes)) = some (1, 24) := by kernel_rfl
theorem sb33 : (Tryz.prog.info? 33).map (fun i => (i.size, i.bytes)) = some (1, 24) := by kernel_rfl
theorem sb121 : (Tryz.prog.info? 121).map (fun i => (i.size, i.bytes)) = some (1, 8) := by kernel_rfl
theorem sz12 : (Tryz.prog.info? 12).map (·.size) = some 1 := by kernel_rfl
theorem sz64 : (Tryz.prog.info? 64).map (·.size) = some 1 := by kernel_rfl
theorem sz134 : (Tryz.prog.info? 134).map (·.size) = some 1 := by kernel_rfl
theorem sz121 : (Tryz.prog.info? 121).map (·.size) = some 1 := by kernel_rfl
theorem sz123 : (Tryz.prog.info? 123).map (·.size) = some 1 := by kernel_rfl
end Go.Proofs.YtfebkkmmagbnlaaGreatDoor
/-! Fe4 -/
namespace Go.Proofs.YtfebkkmmagbnlaaGreatDoor
open Go Go.Sx
set_option maxRecDepth 100000
theorem sz125 : (Tryz.prog.info? 125).map (·.size) = some 1 := by kernel_rfl
theorem sz131 : (Tryz.prog.info? 131).map (·.size) = some 3 := by kernel_rfl
theorem sz158 : (Tryz.prog.info? 158).map (·.size) = some 32 := by kernel_rfl
theorem sz176 : (Tryz.prog.info? 176).map (·.size) = some 8 := by kernel_rfl
theorem sz192 : (Tryz.prog.info? 192).map (·.size) = some 64 := by kernel_rfl
theorem zero90 : zeroL Tryz.prog 90 = some ([.slice none 0 0]) := by kernel_rfl
theorem zero33 : zeroL Tryz.prog 33 = some ([.slice none 0 0]) := by kernel_rfl
theorem zero121 : zeroL Tryz.prog 121 = some ([.pointer none]) := by kernel_rfl
theorem zero136 : zeroL Tryz.prog 136 = some ([.pointer none, .string (bs []), .int .u64 0, .int .i64 0, .int .i64 0, .slice none 0 0, .int .i64 0, .pointer none, .int .u32 0]) := by kernel_rfl
theorem zero133 : zeroL Tryz.prog 133 = some ([.slice none 0 0, .int .i64 0, .int .u32 0, .int .i32 0, .int .u32 0, .slice none 0 0]) := by kernel_rfl
theorem zero158 : zeroL Tryz.prog 158 = some (ints (List.replicate 32 0)) := by kernel_rfl
theorem zero176 : zeroL Tryz.prog 176 = some (ks .u32 (List.replicate 8 0)) := by kernel_rfl
theorem zero192 : zeroL Tryz.prog 192 = some (ks .u32 (List.replicate 64 0)) := by kernel_rfl
theorem zero180 : zeroL Tryz.prog 180 = some (ints (List.replicate 24 0)) := by kernel_rfl
end Go.Proofs.YtfebkkmmagbnlaaGreatDoor
/-! Fd1 -/
namespace Go.Proofs.YtfebkkmmagbnlaaGreatDoor
open Go Go.Sx
set_option maxRecDepth 100000
theorem ent9 : Sx.Enters Tryz.prog 9 := ⟨_, Tryz.func9, by kernel_rfl, by kernel_rfl⟩
theorem ent27 : Sx.Enters Tryz.prog 27 := ⟨_, Tryz.func27, by kernel_rfl, by kernel_rfl⟩
theorem ent75 : Sx.Enters Tryz.prog 75 := ⟨_, Tryz.func75, by kernel_rfl, by kernel_rfl⟩
theorem ent25 : Sx.Enters Tryz.prog 25 := ⟨_, Tryz.func25, by kernel_rfl, by kernel_rfl⟩
theorem ent94 : Sx.Enters Tryz.prog 94 := ⟨_, Tryz.func94, by kernel_rfl, by kernel_rfl⟩
theorem ent15 : Sx.Enters Tryz.prog 15 := ⟨_, Tryz.func15, by kernel_rfl, by kernel_rfl⟩
theorem ent78 : Sx.Enters Tryz.prog 78 := ⟨_, Tryz.func78, by kernel_rfl, by kernel_rfl⟩
theorem ent24 : Sx.Enters Tryz.prog 24 := ⟨_, Tryz.func24, by kernel_rfl, by kernel_rfl⟩
theorem ent26 : Sx.Enters Tryz.prog 26 := ⟨_, Tryz.func26, by kernel_rfl, by kernel_rfl⟩
theorem ent39 : Sx.Enters Tryz.prog 39 := ⟨_, Tryz.func39, by kernel_rfl, by kernel_rfl⟩
theorem ent96 : Sx.Enters Tryz.prog 96 := ⟨_, Tryz.func96, by kernel_rfl, by kernel_rfl⟩
theorem ent100 : Sx.Enters Tryz.prog 100 := ⟨_, Tryz.func100, by kernel_rfl, by kernel_rfl⟩
theorem ent97 : Sx.Enters Tryz.prog 97 := ⟨_, Tryz.func97, by kernel_rfl, by kernel_rfl⟩
theorem ent101 : Sx.Enters Tryz.prog 101 := ⟨_, Tryz.func101, by kernel_rfl, by kernel_rfl⟩
theorem ent99 : Sx.Enters Tryz.prog 99 := ⟨_, Tryz.func99, by kernel_rfl, by kernel_rfl⟩
theorem ent82 : Sx.Enters Tryz.prog 82 := ⟨_, Tryz.func82, by kernel_rfl, by kernel_rfl⟩
theorem ent102 : Sx.Enters Tryz.prog 102 := ⟨_, Tryz.func102, by kernel_rfl, by kernel_rfl⟩
end Go.Proofs.YtfebkkmmagbnlaaGreatDoor
/-! Fd2 -/
namespace Go.Proofs.YtfebkkmmagbnlaaGreatDoor
open Go Go.Sx
set_option maxRecDepth 100000
theorem ent119 : Sx.Enters Tryz.prog 119 := ⟨_, Tryz.func119, by kernel_rfl, by kernel_rfl⟩
theorem ent55 : Sx.Enters Tryz.prog 55 := ⟨_, Tryz.func55, by kernel_rfl, by kernel_rfl⟩
theorem ent105 : Sx.Enters Tryz.prog 105 := ⟨_, Tryz.func105, by kernel_rfl, by kernel_rfl⟩
theorem ent54 : Sx.Enters Tryz.prog 54 := ⟨_, Tryz.func54, by kernel_rfl, by kernel_rfl⟩
theorem ent56 : Sx.Enters Tryz.prog 56 := ⟨_, Tryz.func56, by kernel_rfl, by kernel_rfl⟩
theorem ent47 : Sx.Enters Tryz.prog 47 := ⟨_, Tryz.func47, by kernel_rfl, by kernel_rfl⟩
theorem ent49 : Sx.Enters Tryz.prog 49 := ⟨_, Tryz.func49, by kernel_rfl, by kernel_rfl⟩
theorem ent50 : Sx.Enters Tryz.prog 50 := ⟨_, Tryz.func50, by kernel_rfl, by kernel_rfl⟩
theorem ent98 : Sx.Enters Tryz.prog 98 := ⟨_, Tryz.func98, by kernel_rfl, by kernel_rfl⟩
theorem ent121 : Sx.Enters Tryz.prog 121 := ⟨_, Tryz.func121, by kernel_rfl, by kernel_rfl⟩
theorem ent122 : Sx.Enters Tryz.prog 122 := ⟨_, Tryz.func122, by kernel_rfl, by kernel_rfl⟩
theorem ent123 : Sx.Enters Tryz.prog 123 := ⟨_, Tryz.func123, by kernel_rfl, by kernel_rfl⟩
theorem ent83 : Sx.Enters Tryz.prog 83 := ⟨_, Tryz.func83, by kernel_rfl, by kernel_rfl⟩
end Go.Proofs.YtfebkkmmagbnlaaGreatDoor
/-! Fd3 -/
namespace Go.Proofs.YtfebkkmmagbnlaaGreatDoor
open Go Go.Sx
set_option maxRecDepth 100000
theorem ent138 : Sx.Enters Tryz.prog 138 := ⟨_, Tryz.func138, by kernel_rfl, by kernel_rfl⟩
theorem sb5 : (Tryz.prog.info? 5).map (fun i => (i.size, i.bytes)) = some (1, 1) := by kernel_rfl
theorem sb153 : (Tryz.prog.info? 153).map (fun i => (i.size, i.bytes)) = some (1, 8) := by kernel_rfl
theorem sz3 : (Tryz.prog.info? 3).map (·.size) = some 1 := by kernel_rfl
theorem sz4 : (Tryz.prog.info? 4).map (·.size) = some 1 := by kernel_rfl
theorem sz5 : (Tryz.prog.info? 5).map (·.size) = some 1 := by kernel_rfl
theorem sz9 : (Tryz.prog.info? 9).map (·.size) = some 1 := by kernel_rfl
theorem sz21 : (Tryz.prog.info? 21).map (·.size) = some 1 := by kernel_rfl
theorem sz90 : (Tryz.prog.info? 90).map (·.size) = some 1 := by kernel_rfl
theorem sz33 : (Tryz.prog.info? 33).map (·.size) = some 1 := by kernel_rfl
theorem sz23 : (Tryz.prog.info? 23).map (·.size) = some 1 := by kernel_rfl
end Go.Proofs.YtfebkkmmagbnlaaGreatDoor
