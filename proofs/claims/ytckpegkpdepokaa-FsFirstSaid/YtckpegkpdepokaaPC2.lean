/- Part 2. -/
import Derived.Test.YtckpegkpdepokaaProg
import Derived.Test.YtckpegkpdepokaaPC1
import Derived.IntWalk
import Derived.Laws.Sem
import Derived.Laws.Strings
import Derived.Laws.Entries
import Derived.Laws.IdiomStrings
import Derived.Laws.MakeOwn
/-! Ta2 -/
namespace Go.Proofs.Ytckpegkpdepokaa
open Go Go.Sx
set_option maxRecDepth 100000
def T9 : Tree := (.op (O (.assign (.const (.bool .false))) 4) (.op (O (.call ⟨(.value (.func 10)), #[(.const (.int .i64 100))], #[3]⟩) 27) (.op (O (.extract (.tmp 0) 0) 25) (.op (O (.extract (.tmp 1) 1) 26) (.op (O (.binOp .neq 26 (.tmp 0) (.const (.int .i64 0)) 26) 4) (.gop (.tmp 0) .false (O (.move (.tmp 2)) 25) (.gop (.tmp 1) .false (O (.binOp .eql 25 (.tmp 0) (.const (.pointer Option.none)) 25) 4) (.op (O (.pick (.tmp 2) (.const (.bool .true)) (.tmp 0)) 4) (.gop (.tmp 0) .false (O (.move (.tmp 5)) 25) (.gop (.tmp 1) .false (O (.buildSlice 23 1 #[(0, (.const (.int .u8 120)))]) 23) (.gop (.tmp 2) .false (O (.convert 23 23 (.tmp 0)) 23) (.gop (.tmp 3) .false (O (.call ⟨(.value (.func 13)), #[(.tmp 2), (.const (.string { data := #[97] })), (.tmp 0)], #[25, 9, 23]⟩) 26) (.gop (.tmp 4) .false (O (.binOp .neq 26 (.tmp 0) (.const (.int .i64 0)) 26) 4) (.op (O (.pick (.tmp 5) (.const (.bool .true)) (.tmp 0)) 4) (.gop (.tmp 0) .false (O (.move (.tmp 11)) 25) (.gop (.tmp 1) .false (O (.call ⟨(.value (.func 15)), #[(.tmp 0), (.const (.string { data := #[97] })), (.const (.string { data := #[98] }))], #[25, 9, 9]⟩) 26) (.gop (.tmp 2) .false (O (.binOp .neq 26 (.tmp 0) (.const (.int .i64 0)) 26) 4) (.op (O (.pick (.tmp 3) (.const (.bool .true)) (.tmp 0)) 4) (.gop (.tmp 0) .false (O (.move (.tmp 15)) 25) (.gop (.tmp 1) .false (O (.buildSlice 23 1 #[(0, (.const (.int .u8 121)))]) 23) (.gop (.tmp 2) .false (O (.convert 23 23 (.tmp 0)) 23) (.gop (.tmp 3) .false (O (.call ⟨(.value (.func 16)), #[(.tmp 2), (.const (.string { data := #[98] })), (.tmp 0)], #[25, 9, 23]⟩) 26) (.gop (.tmp 4) .false (O (.binOp .neq 26 (.tmp 0) (.const (.int .i64 0)) 26) 4) (.op (O (.pick (.tmp 5) (.const (.bool .true)) (.tmp 0)) 4) (.cond (.tmp 0) (.op (O (.assign (.const (.bool .false))) 4) (.ret [(.tmp 0)])) (.op (O (.call ⟨(.value (.func 11)), #[(.tmp 21), (.const (.string { data := #[97] }))], #[25, 9]⟩) 29) (.op (O (.extract (.tmp 0) 0) 23) (.op (O (.extract (.tmp 1) 1) 26) (.op (O (.call ⟨(.value (.func 17)), #[(.tmp 24), (.const (.string { data := #[98] }))], #[25, 9]⟩) 36) (.op (O (.extract (.tmp 0) 0) 9) (.op (O (.extract (.tmp 1) 1) 3) (.op (O (.binOp .eql 26 (.tmp 3) (.const (.int .i64 0)) 26) 4) (.gop (.tmp 0) .true (O (.move (.tmp 5)) 23) (.gop (.tmp 1) .true (O (.buildSlice 23 2 #[(0, (.const (.int .u8 120))), (1, (.const (.int .u8 121)))]) 23) (.gop (.tmp 2) .true (O (.convert 23 23 (.tmp 0)) 23) (.gop (.tmp 3) .true (O (.call ⟨(.value (.func 14)), #[(.tmp 2), (.tmp 0)], #[23, 23]⟩) 4) (.op (O (.pick (.tmp 4) (.tmp 0) (.const (.bool .false))) 4) (.gop (.tmp 0) .true (O (.move (.tmp 7)) 9) (.gop (.tmp 1) .true (O (.binOp .eql 9 (.tmp 0) (.const (.string { data := #[97] })) 9) 4) (.op (O (.pick (.tmp 2) (.tmp 0) (.const (.bool .false))) 4) (.gop (.tmp 0) .true (O (.move (.tmp 9)) 3) (.gop (.tmp 1) .true (O (.binOp .eql 3 (.tmp 0) (.const (.int .i64 2)) 3) 4) (.op (O (.pick (.tmp 2) (.tmp 0) (.const (.bool .false))) 4) (.ret [(.tmp 0)]))))))))))))))))))))))))))))))))))))))))))))
def H9 : List (Nat × Nat) := []
theorem T9_ok : tree H9 Try.f9 0 = some T9 := by kernel_rfl
def T17 : Tree := (.op (O (.assign (.const (.string { data := #[] }))) 9) (.op (O (.assign (.const (.int .i64 0))) 3) (.op (O (.binOp .eql 25 (.tmp 2) (.const (.pointer Option.none)) 25) 4) (.gop (.tmp 0) .false (O (.move (.tmp 3)) 25) (.gop (.tmp 1) .false (O (.nilCheck (.tmp 0)) 0) (.gop (.tmp 2) .false (O (.fieldAddr 62 (.tmp 0) 2) 0) (.gop (.tmp 3) .false (O (.load 58 (.tmp 0)) 58) (.gop (.tmp 4) .false (O (.binOp .eql 58 (.tmp 0) (.const (.pointer Option.none)) 58) 4) (.op (O (.pick (.tmp 5) (.const (.bool .true)) (.tmp 0)) 4) (.gop (.tmp 0) .false (O (.move (.tmp 9)) 25) (.gop (.tmp 1) .false (O (.nilCheck (.tmp 0)) 0) (.gop (.tmp 2) .false (O (.fieldAddr 62 (.tmp 0) 2) 0) (.gop (.tmp 3) .false (O (.load 58 (.tmp 0)) 58) (.gop (.tmp 4) .false (O (.nilCheck (.tmp 0)) 0) (.gop (.tmp 5) .false (O (.fieldAddr 66 (.tmp 0) 0) 0) (.gop (.tmp 6) .false (O (.load 64 (.tmp 0)) 64) (.gop (.tmp 7) .false (O (.move (.tmp 17)) 9) (.gop (.tmp 8) .false (O (.lookup 64 (.tmp 1) (.tmp 0) .false) 63) (.gop (.tmp 9) .false (O (.binOp .eql 63 (.tmp 0) (.const (.pointer Option.none)) 63) 4) (.op (O (.pick (.tmp 10) (.const (.bool .true)) (.tmp 0)) 4) (.cond (.tmp 0) (.op (O (.assign (.const (.string { data := #[] }))) 9) (.op (O (.assign (.const (.int .i64 0))) 3) (.ret [(.tmp 1), (.tmp 0)]))) (.op (O (.nilCheck (.tmp 20)) 0) (.op (O (.fieldAddr 62 (.tmp 0) 2) 0) (.op (O (.load 58 (.tmp 0)) 58) (.op (O (.nilCheck (.tmp 0)) 0) (.op (O (.fieldAddr 66 (.tmp 0) 0) 0) (.op (O (.load 64 (.tmp 0)) 64) (.op (O (.lookup 64 (.tmp 0) (.tmp 27) .false) 63) (.op (O (.nilCheck (.tmp 0)) 0) (.op (O (.fieldAddr 73 (.tmp 0) 1) 0) (.op (O (.call ⟨(.value (.func 33)), #[(.tmp 0)], #[71]⟩) 21) (.op (O (.binOp .eql 21 (.tmp 0) (.const (.int .i32 1)) 21) 4) (.cond (.tmp 0) (.op (O (.assign (.const (.int .i64 1))) 3) (.ret [(.tmp 33), (.tmp 0)])) (.op (O (.nilCheck (.tmp 31)) 0) (.op (O (.fieldAddr 62 (.tmp 0) 2) 0) (.op (O (.load 58 (.tmp 0)) 58) (.op (O (.nilCheck (.tmp 0)) 0) (.op (O (.fieldAddr 66 (.tmp 0) 0) 0) (.op (O (.load 64 (.tmp 0)) 64) (.op (O (.call ⟨(.value (.func 42)), #[(.tmp 0)], #[64]⟩) 82) (.op (O (.call ⟨(.value (.func 41)), #[(.tmp 0)], #[82]⟩) 41) (.op (O (.call ⟨(.builtin .len), #[(.tmp 0)], #[41]⟩) 3) (.op (O (.move (.const (.int .i64 0))) 3) (.loop [(.tmp 0)] (.op (O (.binOp .lss 3 (.tmp 0) (.tmp 2) 3) 0) (.cond (.tmp 0) (.op (O (.indexAddr 41 (.tmp 4) (.tmp 1)) 0) (.op (O (.load 9 (.tmp 0)) 9) (.op (O (.nilCheck (.tmp 45)) 0) (.op (O (.fieldAddr 62 (.tmp 0) 2) 0) (.op (O (.load 58 (.tmp 0)) 58) (.op (O (.nilCheck (.tmp 0)) 0) (.op (O (.fieldAddr 66 (.tmp 0) 0) 0) (.op (O (.load 64 (.tmp 0)) 64) (.op (O (.lookup 64 (.tmp 0) (.tmp 6) .false) 63) (.op (O (.binOp .eql 63 (.tmp 0) (.tmp 25) 63) 4) (.cond (.tmp 0) (.op (O (.nilCheck (.tmp 26)) 0) (.op (O (.fieldAddr 73 (.tmp 0) 1) 0) (.op (O (.call ⟨(.value (.func 33)), #[(.tmp 0)], #[71]⟩) 21) (.op (O (.convert 21 3 (.tmp 0)) 3) (.ret [(.tmp 12), (.tmp 0)]))))) (.op (O (.binOp .add 3 (.tmp 11) (.const (.int .i64 1)) 3) 3) (.back 0 [(.tmp 0)]))))))))))))) (.op (O (.assign (.const (.string { data := #[] }))) 9) (.op (O (.assign (.const (.int .i64 0))) 3) (.ret [(.tmp 1), (.tmp 0)])))))))))))))))))))))))))))))))))))))))))))))))))
def H17 : List (Nat × Nat) := []
theorem T17_ok : tree H17 Try.f17 2 = some T17 := by kernel_rfl
def T25 : Tree := (.op (O (.assign (.const (.int .i64 0))) 3) (.op (O (.binOp .eql 25 (.tmp 1) (.const (.pointer Option.none)) 25) 4) (.cond (.tmp 0) (.op (O (.assign (.const (.int .i64 0))) 3) (.ret [(.tmp 0)])) (.op (O (.nilCheck (.tmp 2)) 0) (.op (O (.fieldAddr 62 (.tmp 0) 3) 0) (.op (O (.load 60 (.tmp 0)) 60) (.op (O (.call ⟨(.builtin .len), #[(.tmp 0)], #[60]⟩) 3) (.ret [(.tmp 0)]))))))))
def H25 : List (Nat × Nat) := []
theorem T25_ok : tree H25 Try.f25 1 = some T25 := by kernel_rfl
def T33 : Tree := (.op (O (.assign (.const (.int .i32 0))) 21) (.op (O (.nilCheck (.tmp 1)) 0) (.op (O (.fieldAddr 71 (.tmp 0) 1) 0) (.op (O (.call ⟨(.value (.func 67)), #[(.tmp 0)], #[105]⟩) 21) (.ret [(.tmp 0)])))))
def H33 : List (Nat × Nat) := []
theorem T33_ok : tree H33 Try.f33 1 = some T33 := by kernel_rfl
def T49 : Tree := (.op (O (.assign (.const (.slice Option.none 0 0))) 23) (.op (O (.buildSlice 23 0 #[]) 23) (.op (O (.call ⟨(.builtin .append), #[(.tmp 0), (.tmp 2)], #[23, 23]⟩) 23) (.op (O (.buildSlice 23 1 #[(0, (.const (.int .u8 171)))]) 23) (.op (O (.call ⟨(.builtin .append), #[(.tmp 1), (.tmp 0)], #[23, 23]⟩) 23) (.op (O (.buildSlice 23 1 #[(0, (.const (.int .u8 171)))]) 23) (.op (O (.call ⟨(.builtin .append), #[(.tmp 1), (.tmp 0)], #[23, 23]⟩) 23) (.op (O (.call ⟨(.builtin .len), #[(.tmp 7)], #[23]⟩) 3) (.op (O (.binOp .add 3 (.tmp 0) (.const (.int .i64 1)) 3) 3) (.op (O (.slice 23 (.tmp 2) none (some (.tmp 0)) none) 23) (.ret [(.tmp 0)])))))))))))
def H49 : List (Nat × Nat) := []
theorem T49_ok : tree H49 Try.f49 1 = some T49 := by kernel_rfl
def T57 : Tree := (.op (O (.assign (.const (.int .i64 0))) 3) (.op (O (.call ⟨(.value (.func 74)), #[(.tmp 1)], #[46]⟩) 4) (.cond (.tmp 0) (.op (O (.assign (.const (.int .i64 26))) 3) (.ret [(.tmp 0)])) (.op (O (.call ⟨(.value (.func 80)), #[(.tmp 2)], #[46]⟩) 0) (.op (O (.call ⟨(.value (.func 81)), #[(.tmp 3)], #[46]⟩) 0) (.op (O (.assign (.const (.int .i64 0))) 3) (.ret [(.tmp 0)])))))))
def H57 : List (Nat × Nat) := []
theorem T57_ok : tree H57 Try.f57 1 = some T57 := by kernel_rfl
def T65 : Tree := (.op (O (.assign (.const (.bool .false))) 4) (.op (O (.call ⟨(.value (.func 66)), #[(.tmp 1)], #[9]⟩) 4) (.op (O (.unOp .not 4 (.tmp 0)) 4) (.ret [(.tmp 0)]))))
def H65 : List (Nat × Nat) := []
theorem T65_ok : tree H65 Try.f65 1 = some T65 := by kernel_rfl
def T81 : Tree := (.op (O (.nilCheck (.tmp 0)) 0) (.op (O (.fieldAddr 92 (.tmp 0) 2) 0) (.op (O (.load 86 (.tmp 0)) 86) (.op (O (.call ⟨(.value (.func 83)), #[(.tmp 0)], #[86]⟩) 86) (.op (O (.nilCheck (.tmp 4)) 0) (.op (O (.fieldAddr 92 (.tmp 0) 1) 0) (.op (O (.store 86 (.tmp 0) (.tmp 2)) 0) (.op (O (.nilCheck (.tmp 7)) 0) (.op (O (.fieldAddr 92 (.tmp 0) 3) 0) (.op (O (.store 90 (.tmp 0) (.const (.slice Option.none 0 0))) 0) (.ret [])))))))))))
def H81 : List (Nat × Nat) := []
theorem T81_ok : tree H81 Try.f81 1 = some T81 := by kernel_rfl
end Go.Proofs.Ytckpegkpdepokaa
/-! Ta3 -/
namespace Go.Proofs.Ytckpegkpdepokaa
open Go Go.Sx
set_option maxRecDepth 100000
def T10 : Tree := (.op (O (.assign (.const (.pointer Option.none))) 25) (.op (O (.assign (.const (.int .i64 0))) 26) (.op (O (.binOp .lss 3 (.tmp 2) (.const (.int .i64 0)) 3) 4) (.gop (.tmp 0) .false (O (.move (.tmp 3)) 3) (.gop (.tmp 1) .false (O (.binOp .gtr 3 (.tmp 0) (.const (.int .i64 1073741824)) 3) 4) (.op (O (.pick (.tmp 2) (.const (.bool .true)) (.tmp 0)) 4) (.cond (.tmp 0) (.op (O (.assign (.const (.pointer Option.none))) 25) (.op (O (.assign (.const (.int .i64 1))) 26) (.ret [(.tmp 1), (.tmp 0)]))) (.op (O (.call ⟨(.value (.func 30)), #[], #[]⟩) 58) (.op (O (.call ⟨(.value (.func 30)), #[], #[]⟩) 58) (.op (O (.build 62 #[(0, (.tmp 8)), (1, (.tmp 1)), (2, (.tmp 0))]) 62) (.op (O (.box 62 (.tmp 0)) 25) (.op (O (.assign (.const (.int .i64 0))) 26) (.ret [(.tmp 1), (.tmp 0)])))))))))))))
def H10 : List (Nat × Nat) := []
theorem T10_ok : tree H10 Try.f10 1 = some T10 := by kernel_rfl
def T18 : Tree := (.op (O (.binOp .neq 25 (.tmp 0) (.const (.pointer Option.none)) 25) 4) (.cond (.tmp 0) (.op (O (.binOp .geq 3 (.tmp 2) (.const (.int .i64 0)) 3) 4) (.op (O (.call ⟨(.builtin .max), #[(.const (.int .i64 0)), (.tmp 3)], #[3, 3]⟩) 3) (.op (O (.nilCheck (.tmp 3)) 0) (.op (O (.fieldAddr 62 (.tmp 0) 4) 0) (.op (O (.store 4 (.tmp 0) (.tmp 3)) 0) (.op (O (.nilCheck (.tmp 6)) 0) (.op (O (.fieldAddr 62 (.tmp 0) 5) 0) (.op (O (.store 3 (.tmp 0) (.tmp 5)) 0) (.ret []))))))))) (.ret [])))
def H18 : List (Nat × Nat) := []
theorem T18_ok : tree H18 Try.f18 2 = some T18 := by kernel_rfl
def T26 : Tree := (.op (O (.assign (.const (.bool .false))) 4) (.op (O (.call ⟨(.builtin .len), #[(.tmp 1)], #[41]⟩) 3) (.op (O (.call ⟨(.builtin .len), #[(.tmp 3)], #[41]⟩) 3) (.op (O (.binOp .neq 3 (.tmp 1) (.tmp 0) 3) 4) (.cond (.tmp 0) (.op (O (.assign (.const (.bool .false))) 4) (.ret [(.tmp 0)])) (.op (O (.assign (.const (.int .i64 0))) 3) (.loop [(.tmp 0)] (.op (O (.call ⟨(.builtin .len), #[(.tmp 6)], #[41]⟩) 3) (.op (O (.binOp .lss 3 (.tmp 1) (.tmp 0) 3) 4) (.cond (.tmp 0) (.draw [⟨none, (O (.indexAddr 41 (.tmp 8) (.tmp 2)) 0)⟩, ⟨none, (O (.load 9 (.tmp 0)) 9)⟩, ⟨none, (O (.indexAddr 41 (.tmp 11) (.tmp 4)) 0)⟩, ⟨none, (O (.load 9 (.tmp 0)) 9)⟩, ⟨none, (O (.binOp .neq 9 (.tmp 2) (.tmp 0) 9) 4)⟩] (.cond (.tmp 0) (.op (O (.assign (.const (.bool .false))) 4) (.ret [(.tmp 0)])) (.op (O (.binOp .add 3 (.tmp 7) (.const (.int .i64 1)) 3) 3) (.back 0 [(.tmp 0)])))) (.op (O (.assign (.const (.bool .true))) 4) (.ret [(.tmp 0)]))))))))))))
def H26 : List (Nat × Nat) := []
theorem T26_ok : tree H26 Try.f26 2 = some T26 := by kernel_rfl
def T34 : Tree := (.op (O (.assign (.const (.int .i64 0))) 26) (.op (O (.nilCheck (.tmp 1)) 0) (.op (O (.fieldAddr 62 (.tmp 0) 3) 0) (.op (O (.load 60 (.tmp 0)) 60) (.op (O (.call ⟨(.builtin .len), #[(.tmp 0)], #[60]⟩) 3) (.op (O (.binOp .geq 3 (.tmp 0) (.const (.int .i64 16384)) 3) 4) (.cond (.tmp 0) (.op (O (.nilCheck (.tmp 6)) 0) (.op (O (.fieldAddr 62 (.tmp 0) 3) 0) (.op (O (.load 60 (.tmp 0)) 60) (.op (O (.call ⟨(.builtin .len), #[(.tmp 0)], #[60]⟩) 3) (.op (O (.call ⟨(.value (.func 45)), #[(.tmp 10), (.tmp 0)], #[25, 3]⟩) 0) (.op (O (.nilCheck (.tmp 11)) 0) (.op (O (.fieldAddr 62 (.tmp 0) 2) 0) (.op (O (.load 58 (.tmp 0)) 58) (.op (O (.call ⟨(.value (.tmp 15)), #[(.tmp 0)], #[58]⟩) 0) (.op (O (.nilCheck (.tmp 15)) 0) (.op (O (.fieldAddr 62 (.tmp 0) 3) 0) (.op (O (.load 60 (.tmp 0)) 60) (.op (O (.buildSlice 60 1 #[(0, (.tmp 19))]) 60) (.op (O (.call ⟨(.builtin .append), #[(.tmp 1), (.tmp 0)], #[60, 60]⟩) 60) (.op (O (.nilCheck (.tmp 20)) 0) (.op (O (.fieldAddr 62 (.tmp 0) 3) 0) (.op (O (.store 60 (.tmp 0) (.tmp 2)) 0) (.op (O (.call ⟨(.value (.func 46)), #[(.tmp 23)], #[25]⟩) 0) (.op (O (.assign (.const (.int .i64 0))) 26) (.ret [(.tmp 0)])))))))))))))))))))) (.op (O (.nilCheck (.tmp 6)) 0) (.op (O (.fieldAddr 62 (.tmp 0) 2) 0) (.op (O (.load 58 (.tmp 0)) 58) (.op (O (.call ⟨(.value (.tmp 10)), #[(.tmp 0)], #[58]⟩) 0) (.op (O (.nilCheck (.tmp 10)) 0) (.op (O (.fieldAddr 62 (.tmp 0) 3) 0) (.op (O (.load 60 (.tmp 0)) 60) (.op (O (.buildSlice 60 1 #[(0, (.tmp 14))]) 60) (.op (O (.call ⟨(.builtin .append), #[(.tmp 1), (.tmp 0)], #[60, 60]⟩) 60) (.op (O (.nilCheck (.tmp 15)) 0) (.op (O (.fieldAddr 62 (.tmp 0) 3) 0) (.op (O (.store 60 (.tmp 0) (.tmp 2)) 0) (.op (O (.call ⟨(.value (.func 46)), #[(.tmp 18)], #[25]⟩) 0) (.op (O (.assign (.const (.int .i64 0))) 26) (.ret [(.tmp 0)]))))))))))))))))))))))
def H34 : List (Nat × Nat) := []
theorem T34_ok : tree H34 Try.f34 2 = some T34 := by kernel_rfl
def T50 : Tree := (.op (O (.assign (.const (.int .i64 0))) 3) (.op (O (.call ⟨(.value (.func 74)), #[(.tmp 1)], #[46]⟩) 4) (.cond (.tmp 0) (.op (O (.assign (.const (.int .i64 26))) 3) (.ret [(.tmp 0)])) (.op (O (.call ⟨(.value (.func 75)), #[(.tmp 3)], #[9]⟩) 4) (.op (O (.unOp .not 4 (.tmp 0)) 4) (.cond (.tmp 0) (.op (O (.assign (.const (.int .i64 9))) 3) (.ret [(.tmp 0)])) (.op (O (.call ⟨(.builtin .len), #[(.tmp 6)], #[23]⟩) 3) (.op (O (.binOp .gtr 3 (.tmp 0) (.const (.int .i64 1048576)) 3) 4) (.cond (.tmp 0) (.op (O (.assign (.const (.int .i64 5))) 3) (.ret [(.tmp 0)])) (.op (O (.nilCheck (.tmp 6)) 0) (.op (O (.fieldAddr 92 (.tmp 0) 2) 0) (.op (O (.load 86 (.tmp 0)) 86) (.op (O (.call ⟨(.value (.func 76)), #[(.tmp 0), (.tmp 10)], #[86, 9]⟩) 110) (.op (O (.binOp .eql 110 (.tmp 0) (.const (.pointer Option.none)) 110) 4) (.gop (.tmp 0) .true (O (.move (.tmp 11)) 46) (.gop (.tmp 1) .true (O (.nilCheck (.tmp 0)) 0) (.gop (.tmp 2) .true (O (.fieldAddr 92 (.tmp 0) 2) 0) (.gop (.tmp 3) .true (O (.load 86 (.tmp 0)) 86) (.gop (.tmp 4) .true (O (.nilCheck (.tmp 0)) 0) (.gop (.tmp 5) .true (O (.fieldAddr 89 (.tmp 0) 0) 0) (.gop (.tmp 6) .true (O (.load 41 (.tmp 0)) 41) (.gop (.tmp 7) .true (O (.call ⟨(.builtin .len), #[(.tmp 0)], #[41]⟩) 3) (.gop (.tmp 8) .true (O (.binOp .geq 3 (.tmp 0) (.const (.int .i64 16384)) 3) 4) (.op (O (.pick (.tmp 9) (.tmp 0) (.const (.bool .false))) 4) (.cond (.tmp 0) (.op (O (.assign (.const (.int .i64 6))) 3) (.ret [(.tmp 0)])) (.draw [⟨none, (O (.call ⟨(.value (.func 77)), #[(.tmp 21)], #[46]⟩) 3)⟩, ⟨none, (O (.call ⟨(.value (.func 78)), #[(.tmp 22), (.tmp 23)], #[46, 9]⟩) 3)⟩, ⟨none, (O (.binOp .sub 3 (.tmp 1) (.tmp 0) 3) 3)⟩, ⟨none, (O (.call ⟨(.builtin .len), #[(.tmp 26)], #[23]⟩) 3)⟩, ⟨none, (O (.binOp .add 3 (.tmp 1) (.tmp 0) 3) 3)⟩, ⟨none, (O (.nilCheck (.tmp 26)) 0)⟩, ⟨none, (O (.fieldAddr 92 (.tmp 0) 0) 0)⟩, ⟨none, (O (.load 3 (.tmp 0)) 3)⟩, ⟨none, (O (.binOp .gtr 3 (.tmp 3) (.tmp 0) 3) 4)⟩] (.cond (.tmp 0) (.op (O (.assign (.const (.int .i64 6))) 3) (.ret [(.tmp 0)])) (.op (O (.build 114 #[(0, (.const (.int .i64 1))), (2, (.tmp 31)), (3, (.tmp 32))]) 114) (.op (O (.call ⟨(.value (.func 79)), #[(.tmp 31), (.tmp 0)], #[46, 114]⟩) 3) (.ret [(.tmp 0)]))))))))))))))))))))))))))))))
def H50 : List (Nat × Nat) := []
theorem T50_ok : tree H50 Try.f50 3 = some T50 := by kernel_rfl
def T58 : Tree := (.op (O (.nilCheck (.tmp 0)) 0) (.op (O (.fieldAddr 92 (.tmp 0) 3) 0) (.op (O (.load 90 (.tmp 0)) 90) (.op (O (.call ⟨(.builtin .len), #[(.tmp 0)], #[90]⟩) 3) (.op (O (.call ⟨(.builtin .min), #[(.tmp 5), (.tmp 0)], #[3, 3]⟩) 3) (.op (O (.call ⟨(.builtin .max), #[(.const (.int .i64 0)), (.tmp 0)], #[3, 3]⟩) 3) (.op (O (.nilCheck (.tmp 6)) 0) (.op (O (.fieldAddr 92 (.tmp 0) 1) 0) (.op (O (.load 86 (.tmp 0)) 86) (.op (O (.assign (.const (.int .i64 0))) 3) (.loop [(.tmp 0)] (.op (O (.binOp .lss 3 (.tmp 0) (.tmp 5) 3) 4) (.cond (.tmp 0) (.op (O (.nilCheck (.tmp 12)) 0) (.op (O (.fieldAddr 92 (.tmp 0) 3) 0) (.op (O (.load 90 (.tmp 0)) 90) (.op (O (.indexAddr 90 (.tmp 0) (.tmp 4)) 0) (.op (O (.load 114 (.tmp 0)) 114) (.op (O (.call ⟨(.value (.func 82)), #[(.tmp 8), (.tmp 0)], #[86, 114]⟩) 0) (.op (O (.binOp .add 3 (.tmp 7) (.const (.int .i64 1)) 3) 3) (.back 0 [(.tmp 0)])))))))) (.op (O (.nilCheck (.tmp 12)) 0) (.op (O (.fieldAddr 92 (.tmp 0) 1) 0) (.op (O (.store 86 (.tmp 0) (.tmp 5)) 0) (.op (O (.call ⟨(.value (.func 83)), #[(.tmp 6)], #[86]⟩) 86) (.op (O (.nilCheck (.tmp 16)) 0) (.op (O (.fieldAddr 92 (.tmp 0) 2) 0) (.op (O (.store 86 (.tmp 0) (.tmp 2)) 0) (.op (O (.nilCheck (.tmp 19)) 0) (.op (O (.fieldAddr 92 (.tmp 0) 3) 0) (.op (O (.store 90 (.tmp 0) (.const (.slice Option.none 0 0))) 0) (.op (O (.nilCheck (.tmp 22)) 0) (.op (O (.fieldAddr 92 (.tmp 0) 4) 0) (.op (O (.store 3 (.tmp 0) (.const (.int .i64 (-1)))) 0) (.ret [])))))))))))))))))))))))))))
def H58 : List (Nat × Nat) := []
theorem T58_ok : tree H58 Try.f58 2 = some T58 := by kernel_rfl
def T66 : Tree := (.op (O (.assign (.const (.bool .false))) 4) (.op (O (.call ⟨(.builtin .len), #[(.tmp 1)], #[9]⟩) 3) (.op (O (.binOp .geq 3 (.tmp 0) (.const (.int .i64 1)) 3) 4) (.gop (.tmp 0) .true (O (.move (.tmp 3)) 9) (.gop (.tmp 1) .true (O (.call ⟨(.builtin .len), #[(.tmp 0)], #[9]⟩) 3) (.gop (.tmp 2) .true (O (.binOp .leq 3 (.tmp 0) (.const (.int .i64 300)) 3) 4) (.op (O (.pick (.tmp 3) (.tmp 0) (.const (.bool .false))) 4) (.ret [(.tmp 0)]))))))))
def H66 : List (Nat × Nat) := []
theorem T66_ok : tree H66 Try.f66 1 = some T66 := by kernel_rfl
def T74 : Tree := (.op (O (.assign (.const (.bool .false))) 4) (.op (O (.nilCheck (.tmp 1)) 0) (.op (O (.fieldAddr 92 (.tmp 0) 4) 0) (.op (O (.load 3 (.tmp 0)) 3) (.op (O (.binOp .eql 3 (.tmp 0) (.const (.int .i64 0)) 3) 4) (.ret [(.tmp 0)]))))))
def H74 : List (Nat × Nat) := []
theorem T74_ok : tree H74 Try.f74 1 = some T74 := by kernel_rfl
def T82 : Tree := (.op (O (.box 114 (.tmp 1)) 0) (.op (O (.fieldAddr 114 (.tmp 0) 0) 0) (.op (O (.load 3 (.tmp 0)) 3) (.op (O (.binOp .eql 3 (.tmp 0) (.const (.int .i64 1)) 3) 4) (.cond (.tmp 0) (.op (O (.fieldAddr 114 (.tmp 3) 2) 0) (.op (O (.load 9 (.tmp 0)) 9) (.op (O (.fieldAddr 114 (.tmp 5) 3) 0) (.op (O (.load 23 (.tmp 0)) 23) (.op (O (.build 116 #[(0, (.tmp 0))]) 116) (.op (O (.box 116 (.tmp 0)) 110) (.op (O (.call ⟨(.value (.func 100)), #[(.tmp 10), (.tmp 4), (.tmp 0)], #[86, 9, 110]⟩) 0) (.ret [])))))))) (.op (O (.binOp .eql 3 (.tmp 1) (.const (.int .i64 2)) 3) 4) (.cond (.tmp 0) (.op (O (.fieldAddr 114 (.tmp 4) 2) 0) (.op (O (.load 9 (.tmp 0)) 9) (.op (O (.call ⟨(.value (.func 76)), #[(.tmp 7), (.tmp 0)], #[86, 9]⟩) 110) (.mix (.mq none (O (.nilCheck (.tmp 0)) 0) (.mq none (O (.fieldAddr 116 (.tmp 0) 0) 0) (.mq none (O (.load 23 (.tmp 0)) 23) (.mq none (O (.fieldAddr 114 (.tmp 10) 3) 0) (.mq none (O (.load 23 (.tmp 0)) 23) (.op (O (.buildSlice 23 0 #[]) 23) (.mD (.op (O (.call ⟨(.builtin .append), #[(.tmp 0), (.tmp 3)], #[23, 23]⟩) 23) (.mD (.op (O (.call ⟨(.builtin .append), #[(.tmp 0), (.tmp 2)], #[23, 23]⟩) 23) (.mD (.mq none (O (.nilCheck (.tmp 8)) 0) (.mq none (O (.fieldAddr 116 (.tmp 0) 0) 0) (.op (O (.store 23 (.tmp 0) (.tmp 2)) 0) (.mR (.mend (.ret []))))))))))))))))))))) (.op (O (.binOp .eql 3 (.tmp 2) (.const (.int .i64 3)) 3) 4) (.cond (.tmp 0) (.mix (.mq none (O (.fieldAddr 114 (.tmp 5) 2) 0) (.mq none (O (.load 9 (.tmp 0)) 9) (.mq none (O (.fieldAddr 114 (.tmp 7) 1) 0) (.mq none (O (.load 9 (.tmp 0)) 9) (.op (O (.call ⟨(.value (.func 76)), #[(.tmp 10), (.tmp 0)], #[86, 9]⟩) 110) (.mD (.op (O (.call ⟨(.value (.func 100)), #[(.tmp 11), (.tmp 3), (.tmp 0)], #[86, 9, 110]⟩) 0) (.mR (.mend (.ret []))))))))))) (.op (O (.binOp .eql 3 (.tmp 3) (.const (.int .i64 4)) 3) 4) (.cond (.tmp 0) (.op (O (.fieldAddr 114 (.tmp 6) 1) 0) (.op (O (.load 9 (.tmp 0)) 9) (.op (O (.fieldAddr 114 (.tmp 8) 2) 0) (.op (O (.load 9 (.tmp 0)) 9) (.op (O (.binOp .neq 9 (.tmp 2) (.tmp 0) 9) 4) (.cond (.tmp 0) (.op (O (.fieldAddr 114 (.tmp 11) 1) 0) (.op (O (.load 9 (.tmp 0)) 9) (.op (O (.call ⟨(.value (.func 76)), #[(.tmp 14), (.tmp 0)], #[86, 9]⟩) 110) (.op (O (.fieldAddr 114 (.tmp 14) 1) 0) (.op (O (.load 9 (.tmp 0)) 9) (.op (O (.call ⟨(.value (.func 101)), #[(.tmp 17), (.tmp 0)], #[86, 9]⟩) 0) (.op (O (.fieldAddr 114 (.tmp 17) 2) 0) (.op (O (.load 9 (.tmp 0)) 9) (.op (O (.call ⟨(.value (.func 100)), #[(.tmp 20), (.tmp 0), (.tmp 5)], #[86, 9, 110]⟩) 0) (.ret [])))))))))) (.ret []))))))) (.op (O (.binOp .eql 3 (.tmp 4) (.const (.int .i64 5)) 3) 4) (.cond (.tmp 0) (.op (O (.fieldAddr 114 (.tmp 7) 2) 0) (.op (O (.load 9 (.tmp 0)) 9) (.op (O (.call ⟨(.value (.func 101)), #[(.tmp 10), (.tmp 0)], #[86, 9]⟩) 0) (.ret [])))) (.ret []))))))))))))))
def H82 : List (Nat × Nat) := [(6, 14), (8, 99)]
theorem T82_ok : tree H82 Try.f82 2 = some T82 := by kernel_rfl
def T98 : Tree := (.op (O (.assign (.const (.int .i64 0))) 3) (.op (O (.assign (.const (.bool .false))) 4) (.draw [⟨none, (O (.nilCheck (.tmp 2)) 0)⟩, ⟨none, (O (.fieldAddr 89 (.tmp 0) 0) 0)⟩, ⟨none, (O (.load 41 (.tmp 0)) 41)⟩, ⟨none, (O (.call ⟨(.builtin .len), #[(.tmp 0)], #[41]⟩) 3)⟩, ⟨none, (O (.assign (.const (.int .i64 0))) 3)⟩] (.loop [(.tmp 0), (.tmp 1)] (.op (O (.binOp .lss 3 (.tmp 0) (.tmp 1) 3) 4) (.cond (.tmp 0) (.op (O (.binOp .add 3 (.tmp 1) (.tmp 2) 3) 3) (.op (O (.binOp .quo 3 (.tmp 0) (.const (.int .i64 2)) 3) 3) (.op (O (.nilCheck (.tmp 12)) 0) (.op (O (.fieldAddr 89 (.tmp 0) 0) 0) (.op (O (.load 41 (.tmp 0)) 41) (.op (O (.indexAddr 41 (.tmp 0) (.tmp 3)) 0) (.op (O (.load 9 (.tmp 0)) 9) (.op (O (.binOp .lss 9 (.tmp 0) (.tmp 18) 9) 4) (.cond (.tmp 0) (.op (O (.binOp .add 3 (.tmp 6) (.const (.int .i64 1)) 3) 3) (.back 0 [(.tmp 0), (.tmp 11)])) (.back 0 [(.tmp 9), (.tmp 6)])))))))))) (.draw [⟨none, (O (.nilCheck (.tmp 10)) 0)⟩, ⟨none, (O (.fieldAddr 89 (.tmp 0) 0) 0)⟩, ⟨none, (O (.load 41 (.tmp 0)) 41)⟩, ⟨none, (O (.call ⟨(.builtin .len), #[(.tmp 0)], #[41]⟩) 3)⟩, ⟨none, (O (.binOp .lss 3 (.tmp 5) (.tmp 0) 3) 4)⟩, ⟨(some ((.tmp 0), .true)), (O (.move (.tmp 15)) 86)⟩, ⟨(some ((.tmp 1), .true)), (O (.nilCheck (.tmp 0)) 0)⟩, ⟨(some ((.tmp 2), .true)), (O (.fieldAddr 89 (.tmp 0) 0) 0)⟩, ⟨(some ((.tmp 3), .true)), (O (.load 41 (.tmp 0)) 41)⟩, ⟨(some ((.tmp 4), .true)), (O (.move (.tmp 10)) 3)⟩, ⟨(some ((.tmp 5), .true)), (O (.indexAddr 41 (.tmp 1) (.tmp 0)) 0)⟩, ⟨(some ((.tmp 6), .true)), (O (.load 9 (.tmp 0)) 9)⟩, ⟨(some ((.tmp 7), .true)), (O (.move (.tmp 23)) 9)⟩, ⟨(some ((.tmp 8), .true)), (O (.binOp .eql 9 (.tmp 1) (.tmp 0) 9) 4)⟩, ⟨none, (O (.pick (.tmp 9) (.tmp 0) (.const (.bool .false))) 4)⟩] (.ret [(.tmp 16), (.tmp 0)]))))))))
def H98 : List (Nat × Nat) := []
theorem T98_ok : tree H98 Try.f98 2 = some T98 := by kernel_rfl
end Go.Proofs.Ytckpegkpdepokaa
/-! Ta4 -/
namespace Go.Proofs.Ytckpegkpdepokaa
open Go Go.Sx
set_option maxRecDepth 100000
def T11 : Tree := (.op (O (.assign (.const (.slice Option.none 0 0))) 23) (.op (O (.assign (.const (.int .i64 0))) 26) (.op (O (.binOp .eql 25 (.tmp 2) (.const (.pointer Option.none)) 25) 4) (.gop (.tmp 0) .false (O (.move (.tmp 3)) 25) (.gop (.tmp 1) .false (O (.nilCheck (.tmp 0)) 0) (.gop (.tmp 2) .false (O (.fieldAddr 62 (.tmp 0) 2) 0) (.gop (.tmp 3) .false (O (.load 58 (.tmp 0)) 58) (.gop (.tmp 4) .false (O (.binOp .eql 58 (.tmp 0) (.const (.pointer Option.none)) 58) 4) (.op (O (.pick (.tmp 5) (.const (.bool .true)) (.tmp 0)) 4) (.gop (.tmp 0) .false (O (.move (.tmp 9)) 25) (.gop (.tmp 1) .false (O (.nilCheck (.tmp 0)) 0) (.gop (.tmp 2) .false (O (.fieldAddr 62 (.tmp 0) 2) 0) (.gop (.tmp 3) .false (O (.load 58 (.tmp 0)) 58) (.gop (.tmp 4) .false (O (.nilCheck (.tmp 0)) 0) (.gop (.tmp 5) .false (O (.fieldAddr 66 (.tmp 0) 0) 0) (.gop (.tmp 6) .false (O (.load 64 (.tmp 0)) 64) (.gop (.tmp 7) .false (O (.move (.tmp 17)) 9) (.gop (.tmp 8) .false (O (.lookup 64 (.tmp 1) (.tmp 0) .false) 63) (.gop (.tmp 9) .false (O (.binOp .eql 63 (.tmp 0) (.const (.pointer Option.none)) 63) 4) (.op (O (.pick (.tmp 10) (.const (.bool .true)) (.tmp 0)) 4) (.cond (.tmp 0) (.op (O (.assign (.const (.slice Option.none 0 0))) 23) (.op (O (.assign (.const (.int .i64 7))) 26) (.ret [(.tmp 1), (.tmp 0)]))) (.op (O (.nilCheck (.tmp 20)) 0) (.op (O (.fieldAddr 62 (.tmp 0) 2) 0) (.op (O (.load 58 (.tmp 0)) 58) (.op (O (.nilCheck (.tmp 0)) 0) (.op (O (.fieldAddr 66 (.tmp 0) 0) 0) (.op (O (.load 64 (.tmp 0)) 64) (.op (O (.lookup 64 (.tmp 0) (.tmp 27) .false) 63) (.op (O (.nilCheck (.tmp 0)) 0) (.op (O (.fieldAddr 73 (.tmp 0) 0) 0) (.op (O (.load 23 (.tmp 0)) 23) (.op (O (.call ⟨(.value (.func 31)), #[(.tmp 0)], #[23]⟩) 23) (.op (O (.assign (.const (.int .i64 0))) 26) (.ret [(.tmp 1), (.tmp 0)]))))))))))))))))))))))))))))))))))
def H11 : List (Nat × Nat) := []
theorem T11_ok : tree H11 Try.f11 2 = some T11 := by kernel_rfl
def T19 : Tree := (.op (O (.assign (.const (.slice Option.none 0 0))) 41) (.op (O (.binOp .eql 25 (.tmp 1) (.const (.pointer Option.none)) 25) 4) (.gop (.tmp 0) .false (O (.move (.tmp 2)) 25) (.gop (.tmp 1) .false (O (.nilCheck (.tmp 0)) 0) (.gop (.tmp 2) .false (O (.fieldAddr 62 (.tmp 0) 2) 0) (.gop (.tmp 3) .false (O (.load 58 (.tmp 0)) 58) (.gop (.tmp 4) .false (O (.binOp .eql 58 (.tmp 0) (.const (.pointer Option.none)) 58) 4) (.op (O (.pick (.tmp 5) (.const (.bool .true)) (.tmp 0)) 4) (.cond (.tmp 0) (.op (O (.assign (.const (.slice Option.none 0 0))) 41) (.ret [(.tmp 0)])) (.op (O (.assign (.const (.slice Option.none 0 0))) 41) (.op (O (.nilCheck (.tmp 9)) 0) (.op (O (.fieldAddr 62 (.tmp 0) 2) 0) (.op (O (.load 58 (.tmp 0)) 58) (.op (O (.nilCheck (.tmp 0)) 0) (.op (O (.fieldAddr 66 (.tmp 0) 0) 0) (.op (O (.load 64 (.tmp 0)) 64) (.op (O (.range 64 (.tmp 0)) 0) (.loop [(.tmp 7)] (.op (O (.next (.tmp 1) .false) 0) (.op (O (.extract (.tmp 0) 0) 4) (.cond (.tmp 0) (.op (O (.entry (.tmp 3)) 0) (.op (O (.extract (.tmp 0) 0) 9) (.op (O (.call ⟨(.value (.func 43)), #[(.tmp 0), (.tmp 22)], #[9, 9]⟩) 4) (.cond (.tmp 0) (.op (O (.buildSlice 41 1 #[(0, (.tmp 1))]) 41) (.op (O (.call ⟨(.builtin .append), #[(.tmp 6), (.tmp 0)], #[41, 41]⟩) 41) (.back 0 [(.tmp 0)]))) (.back 0 [(.tmp 5)]))))) (.op (O (.call ⟨(.value (.func 44)), #[(.tmp 2)], #[41]⟩) 0) (.ret [(.tmp 3)])))))))))))))))))))))))
def H19 : List (Nat × Nat) := []
theorem T19_ok : tree H19 Try.f19 2 = some T19 := by kernel_rfl
def T27 : Tree := (.op (O (.box 9 (.tmp 1)) 0) (.op (O (.box 9 (.tmp 3)) 0) (.op (O (.assign (.const (.int .i64 0))) 26) (.op (O (.load 9 (.tmp 2)) 9) (.op (O (.load 9 (.tmp 2)) 9) (.op (O (.buildSlice 41 2 #[(0, (.tmp 1)), (1, (.tmp 0))]) 41) (.op (O (.call ⟨(.value (.func 32)), #[(.tmp 6), (.tmp 0)], #[25, 41]⟩) 26) (.op (O (.binOp .neq 26 (.tmp 0) (.const (.int .i64 0)) 26) 4) (.cond (.tmp 0) (.ret [(.tmp 1)]) (.draw [⟨none, (O (.nilCheck (.tmp 8)) 0)⟩, ⟨none, (O (.fieldAddr 62 (.tmp 0) 2) 0)⟩, ⟨none, (O (.load 58 (.tmp 0)) 58)⟩, ⟨none, (O (.nilCheck (.tmp 0)) 0)⟩, ⟨none, (O (.fieldAddr 66 (.tmp 0) 0) 0)⟩, ⟨none, (O (.load 64 (.tmp 0)) 64)⟩, ⟨none, (O (.load 9 (.tmp 13)) 9)⟩, ⟨none, (O (.lookup 64 (.tmp 1) (.tmp 0) .false) 63)⟩, ⟨none, (O (.binOp .eql 63 (.tmp 0) (.const (.pointer Option.none)) 63) 4)⟩] (.cond (.tmp 0) (.op (O (.assign (.const (.int .i64 7))) 26) (.ret [(.tmp 0)])) (.op (O (.makeFunc (.func 61) #[] #[(.tmp 16), (.tmp 15)]) 79) (.op (O (.call ⟨(.value (.func 34)), #[(.tmp 18), (.tmp 0)], #[25, 100]⟩) 26) (.ret [(.tmp 0)]))))))))))))))
def H27 : List (Nat × Nat) := []
theorem T27_ok : tree H27 Try.f27 3 = some T27 := by kernel_rfl
def T35 : Tree := (.op (O (.load 9 (.tmp 1)) 9) (.op (O (.call ⟨(.value (.func 36)), #[(.tmp 1), (.tmp 0)], #[58, 9]⟩) 0) (.op (O (.load 23 (.tmp 4)) 23) (.op (O (.call ⟨(.value (.func 37)), #[(.tmp 0)], #[23]⟩) 23) (.op (O (.build 73 #[(0, (.tmp 0))]) 73) (.op (O (.box 73 (.tmp 0)) 63) (.op (O (.load 9 (.tmp 7)) 9) (.op (O (.call ⟨(.value (.func 38)), #[(.tmp 7), (.tmp 0), (.tmp 1)], #[58, 9, 63]⟩) 0) (.draw [⟨none, (O (.nilCheck (.tmp 8)) 0)⟩, ⟨none, (O (.fieldAddr 66 (.tmp 0) 1) 0)⟩, ⟨none, (O (.load 3 (.tmp 0)) 3)⟩, ⟨none, (O (.load 23 (.tmp 13)) 23)⟩, ⟨none, (O (.call ⟨(.builtin .len), #[(.tmp 0)], #[23]⟩) 3)⟩, ⟨none, (O (.binOp .add 3 (.tmp 2) (.tmp 0) 3) 3)⟩, ⟨none, (O (.nilCheck (.tmp 14)) 0)⟩, ⟨none, (O (.fieldAddr 66 (.tmp 0) 1) 0)⟩] (.op (O (.store 3 (.tmp 0) (.tmp 2)) 0) (.ret [])))))))))))
def H35 : List (Nat × Nat) := [(3, 9)]
theorem T35_ok : tree H35 Try.f35 3 = some T35 := by kernel_rfl
def T43 : Tree := (.op (O (.assign (.const (.bool .false))) 4) (.op (O (.call ⟨(.value (.func 71)), #[(.tmp 1), (.tmp 2)], #[9, 9]⟩) 4) (.ret [(.tmp 0)])))
def H43 : List (Nat × Nat) := []
theorem T43_ok : tree H43 Try.f43 2 = some T43 := by kernel_rfl
def T51 : Tree := (.op (O (.assign (.const (.int .i64 0))) 3) (.op (O (.call ⟨(.value (.func 74)), #[(.tmp 1)], #[46]⟩) 4) (.cond (.tmp 0) (.op (O (.assign (.const (.int .i64 26))) 3) (.ret [(.tmp 0)])) (.op (O (.call ⟨(.value (.func 75)), #[(.tmp 3)], #[9]⟩) 4) (.op (O (.unOp .not 4 (.tmp 0)) 4) (.cond (.tmp 0) (.op (O (.assign (.const (.int .i64 9))) 3) (.ret [(.tmp 0)])) (.op (O (.nilCheck (.tmp 4)) 0) (.op (O (.fieldAddr 92 (.tmp 0) 2) 0) (.op (O (.load 86 (.tmp 0)) 86) (.op (O (.call ⟨(.value (.func 76)), #[(.tmp 0), (.tmp 8)], #[86, 9]⟩) 110) (.op (O (.binOp .eql 110 (.tmp 0) (.const (.pointer Option.none)) 110) 4) (.cond (.tmp 0) (.op (O (.assign (.const (.int .i64 7))) 3) (.ret [(.tmp 0)])) (.op (O (.nilCheck (.tmp 1)) 0) (.op (O (.fieldAddr 116 (.tmp 0) 0) 0) (.op (O (.load 23 (.tmp 0)) 23) (.op (O (.call ⟨(.builtin .len), #[(.tmp 0)], #[23]⟩) 3) (.op (O (.call ⟨(.builtin .len), #[(.tmp 15)], #[23]⟩) 3) (.op (O (.binOp .add 3 (.tmp 1) (.tmp 0) 3) 3) (.op (O (.binOp .gtr 3 (.tmp 0) (.const (.int .i64 1048576)) 3) 4) (.cond (.tmp 0) (.op (O (.assign (.const (.int .i64 5))) 3) (.ret [(.tmp 0)])) (.draw [⟨none, (O (.call ⟨(.value (.func 77)), #[(.tmp 16)], #[46]⟩) 3)⟩, ⟨none, (O (.call ⟨(.builtin .len), #[(.tmp 19)], #[23]⟩) 3)⟩, ⟨none, (O (.binOp .add 3 (.tmp 1) (.tmp 0) 3) 3)⟩, ⟨none, (O (.nilCheck (.tmp 19)) 0)⟩, ⟨none, (O (.fieldAddr 92 (.tmp 0) 0) 0)⟩, ⟨none, (O (.load 3 (.tmp 0)) 3)⟩, ⟨none, (O (.binOp .gtr 3 (.tmp 3) (.tmp 0) 3) 4)⟩] (.cond (.tmp 0) (.op (O (.assign (.const (.int .i64 6))) 3) (.ret [(.tmp 0)])) (.op (O (.build 114 #[(0, (.const (.int .i64 2))), (2, (.tmp 24)), (3, (.tmp 25))]) 114) (.op (O (.call ⟨(.value (.func 79)), #[(.tmp 24), (.tmp 0)], #[46, 114]⟩) 3) (.ret [(.tmp 0)])))))))))))))))))))))))))
def H51 : List (Nat × Nat) := []
theorem T51_ok : tree H51 Try.f51 3 = some T51 := by kernel_rfl
def T59 : Tree := (.op (O (.call ⟨(.builtin .max), #[(.const (.int .i64 (-1))), (.tmp 1)], #[3, 3]⟩) 3) (.op (O (.nilCheck (.tmp 1)) 0) (.op (O (.fieldAddr 92 (.tmp 0) 4) 0) (.op (O (.store 3 (.tmp 0) (.tmp 2)) 0) (.ret [])))))
def H59 : List (Nat × Nat) := []
theorem T59_ok : tree H59 Try.f59 2 = some T59 := by kernel_rfl
def T75 : Tree := (.op (O (.assign (.const (.bool .false))) 4) (.op (O (.call ⟨(.builtin .len), #[(.tmp 1)], #[9]⟩) 3) (.op (O (.binOp .geq 3 (.tmp 0) (.const (.int .i64 1)) 3) 4) (.gop (.tmp 0) .true (O (.move (.tmp 3)) 9) (.gop (.tmp 1) .true (O (.call ⟨(.builtin .len), #[(.tmp 0)], #[9]⟩) 3) (.gop (.tmp 2) .true (O (.binOp .leq 3 (.tmp 0) (.const (.int .i64 300)) 3) 4) (.op (O (.pick (.tmp 3) (.tmp 0) (.const (.bool .false))) 4) (.ret [(.tmp 0)]))))))))
def H75 : List (Nat × Nat) := []
theorem T75_ok : tree H75 Try.f75 1 = some T75 := by kernel_rfl
def T83 : Tree := (.op (O (.assign (.const (.pointer Option.none))) 86) (.op (O (.buildSlice 41 0 #[]) 41) (.op (O (.nilCheck (.tmp 2)) 0) (.op (O (.fieldAddr 89 (.tmp 0) 0) 0) (.op (O (.load 41 (.tmp 0)) 41) (.op (O (.call ⟨(.builtin .append), #[(.tmp 3), (.tmp 0)], #[41, 41]⟩) 41) (.op (O (.build 89 #[(0, (.tmp 0))]) 89) (.op (O (.box 89 (.tmp 0)) 86) (.op (O (.assign (.const (.slice Option.none 0 0))) 87) (.op (O (.assign (.const (.slice Option.none 0 0))) 87) (.op (O (.assign (.const (.int .i64 0))) 3) (.loop [(.tmp 2), (.tmp 1), (.tmp 0)] (.op (O (.nilCheck (.tmp 14)) 0) (.op (O (.fieldAddr 89 (.tmp 0) 1) 0) (.op (O (.load 87 (.tmp 0)) 87) (.op (O (.call ⟨(.builtin .len), #[(.tmp 0)], #[87]⟩) 3) (.op (O (.binOp .lss 3 (.tmp 6) (.tmp 0) 3) 4) (.cond (.tmp 0) (.op (O (.assign (.const (.int .i64 (-1)))) 3) (.op (O (.assign (.const (.int .i64 0))) 3) (.loop [(.tmp 1), (.tmp 0)] (.op (O (.call ⟨(.builtin .len), #[(.tmp 9)], #[87]⟩) 3) (.op (O (.binOp .lss 3 (.tmp 2) (.tmp 0) 3) 4) (.cond (.tmp 0) (.draw [⟨none, (O (.indexAddr 87 (.tmp 11) (.tmp 3)) 0)⟩, ⟨none, (O (.load 110 (.tmp 0)) 110)⟩, ⟨none, (O (.nilCheck (.tmp 27)) 0)⟩, ⟨none, (O (.fieldAddr 89 (.tmp 0) 1) 0)⟩, ⟨none, (O (.load 87 (.tmp 0)) 87)⟩, ⟨none, (O (.indexAddr 87 (.tmp 0) (.tmp 18)) 0)⟩, ⟨none, (O (.load 110 (.tmp 0)) 110)⟩, ⟨none, (O (.binOp .eql 110 (.tmp 5) (.tmp 0) 110) 4)⟩] (.cond (.tmp 0) (.op (O (.binOp .add 3 (.tmp 11) (.const (.int .i64 1)) 3) 3) (.back 1 [(.tmp 12), (.tmp 0)])) (.op (O (.binOp .add 3 (.tmp 11) (.const (.int .i64 1)) 3) 3) (.back 1 [(.tmp 11), (.tmp 0)])))) (.op (O (.binOp .lss 3 (.tmp 2) (.const (.int .i64 0)) 3) 4) (.cond (.tmp 0) (.op (O (.call ⟨(.builtin .len), #[(.tmp 12)], #[87]⟩) 3) (.op (O (.nilCheck (.tmp 27)) 0) (.op (O (.fieldAddr 89 (.tmp 0) 1) 0) (.op (O (.load 87 (.tmp 0)) 87) (.op (O (.indexAddr 87 (.tmp 0) (.tmp 18)) 0) (.op (O (.load 110 (.tmp 0)) 110) (.op (O (.buildSlice 87 1 #[(0, (.tmp 0))]) 87) (.op (O (.call ⟨(.builtin .append), #[(.tmp 19), (.tmp 0)], #[87, 87]⟩) 87) (.op (O (.nilCheck (.tmp 34)) 0) (.op (O (.fieldAddr 89 (.tmp 0) 1) 0) (.op (O (.load 87 (.tmp 0)) 87) (.op (O (.indexAddr 87 (.tmp 0) (.tmp 25)) 0) (.op (O (.load 110 (.tmp 0)) 110) (.op (O (.nilCheck (.tmp 0)) 0) (.op (O (.fieldAddr 116 (.tmp 0) 0) 0) (.op (O (.load 23 (.tmp 0)) 23) (.op (O (.build 116 #[(0, (.tmp 0))]) 116) (.op (O (.box 116 (.tmp 0)) 110) (.op (O (.buildSlice 87 1 #[(0, (.tmp 0))]) 87) (.op (O (.call ⟨(.builtin .append), #[(.tmp 32), (.tmp 0)], #[87, 87]⟩) 87) (.mix (.mq none (O (.nilCheck (.tmp 38)) 0) (.mq none (O (.fieldAddr 89 (.tmp 0) 1) 0) (.mq none (O (.load 87 (.tmp 0)) 87) (.mq none (O (.indexAddr 87 (.tmp 3) (.tmp 22)) 0) (.mq none (O (.load 110 (.tmp 0)) 110) (.op (O (.buildSlice 87 1 #[(0, (.tmp 0))]) 87) (.mD (.op (O (.call ⟨(.builtin .append), #[(.tmp 3), (.tmp 0)], #[87, 87]⟩) 87) (.mD (.mq none (O (.nilCheck (.tmp 45)) 0) (.mq none (O (.fieldAddr 89 (.tmp 0) 1) 0) (.op (O (.store 87 (.tmp 0) (.tmp 2)) 0) (.mR (.mend (.op (O (.binOp .add 3 (.tmp 44) (.const (.int .i64 1)) 3) 3) (.back 0 [(.tmp 23), (.tmp 11), (.tmp 0)]))))))))))))))))))))))))))))))))))))) (.mix (.mq none (O (.nilCheck (.tmp 18)) 0) (.mq none (O (.fieldAddr 89 (.tmp 0) 1) 0) (.mq none (O (.load 87 (.tmp 0)) 87) (.mq none (O (.indexAddr 87 (.tmp 16) (.tmp 6)) 0) (.mq none (O (.load 110 (.tmp 0)) 110) (.op (O (.buildSlice 87 1 #[(0, (.tmp 0))]) 87) (.mD (.op (O (.call ⟨(.builtin .append), #[(.tmp 3), (.tmp 0)], #[87, 87]⟩) 87) (.mD (.mq none (O (.nilCheck (.tmp 25)) 0) (.mq none (O (.fieldAddr 89 (.tmp 0) 1) 0) (.op (O (.store 87 (.tmp 0) (.tmp 2)) 0) (.mR (.mend (.op (O (.binOp .add 3 (.tmp 24) (.const (.int .i64 1)) 3) 3) (.back 0 [(.tmp 23), (.tmp 24), (.tmp 0)]))))))))))))))))))))))))) (.ret [(.tmp 11)])))))))))))))))))))
def H83 : List (Nat × Nat) := [(16, 15)]
theorem T83_ok : tree H83 Try.f83 1 = some T83 := by kernel_rfl
def T99 : Tree := (.op (O (.assign (.const (.int .i64 0))) 3) (.op (O (.assign (.const (.int .i64 0))) 3) (.op (O (.assign (.const (.int .i64 0))) 3) (.loop [(.tmp 1), (.tmp 0)] (.op (O (.nilCheck (.tmp 5)) 0) (.op (O (.fieldAddr 89 (.tmp 0) 1) 0) (.op (O (.load 87 (.tmp 0)) 87) (.op (O (.call ⟨(.builtin .len), #[(.tmp 0)], #[87]⟩) 3) (.op (O (.binOp .lss 3 (.tmp 5) (.tmp 0) 3) 4) (.cond (.tmp 0) (.op (O (.nilCheck (.tmp 10)) 0) (.op (O (.fieldAddr 89 (.tmp 0) 1) 0) (.op (O (.load 87 (.tmp 0)) 87) (.op (O (.indexAddr 87 (.tmp 0) (.tmp 9)) 0) (.op (O (.load 110 (.tmp 0)) 110) (.op (O (.binOp .eql 110 (.tmp 0) (.tmp 16) 110) 4) (.cond (.tmp 0) (.op (O (.binOp .add 3 (.tmp 11) (.const (.int .i64 1)) 3) 3) (.op (O (.binOp .add 3 (.tmp 13) (.const (.int .i64 1)) 3) 3) (.back 0 [(.tmp 1), (.tmp 0)]))) (.op (O (.binOp .add 3 (.tmp 12) (.const (.int .i64 1)) 3) 3) (.back 0 [(.tmp 12), (.tmp 0)]))))))))) (.ret [(.tmp 5)])))))))))))
def H99 : List (Nat × Nat) := []
theorem T99_ok : tree H99 Try.f99 2 = some T99 := by kernel_rfl
end Go.Proofs.Ytckpegkpdepokaa
/-! Ta5 -/
namespace Go.Proofs.Ytckpegkpdepokaa
open Go Go.Sx
set_option maxRecDepth 100000
def T12 : Tree := (.op (O (.assign (.const (.int .i64 0))) 3) (.op (O (.binOp .eql 25 (.tmp 1) (.const (.pointer Option.none)) 25) 4) (.gop (.tmp 0) .false (O (.move (.tmp 2)) 25) (.gop (.tmp 1) .false (O (.nilCheck (.tmp 0)) 0) (.gop (.tmp 2) .false (O (.fieldAddr 62 (.tmp 0) 2) 0) (.gop (.tmp 3) .false (O (.load 58 (.tmp 0)) 58) (.gop (.tmp 4) .false (O (.binOp .eql 58 (.tmp 0) (.const (.pointer Option.none)) 58) 4) (.op (O (.pick (.tmp 5) (.const (.bool .true)) (.tmp 0)) 4) (.cond (.tmp 0) (.op (O (.assign (.const (.int .i64 0))) 3) (.ret [(.tmp 0)])) (.op (O (.nilCheck (.tmp 8)) 0) (.op (O (.fieldAddr 62 (.tmp 0) 2) 0) (.op (O (.load 58 (.tmp 0)) 58) (.op (O (.nilCheck (.tmp 0)) 0) (.op (O (.fieldAddr 66 (.tmp 0) 1) 0) (.op (O (.load 3 (.tmp 0)) 3) (.ret [(.tmp 0)]))))))))))))))))
def H12 : List (Nat × Nat) := []
theorem T12_ok : tree H12 Try.f12 1 = some T12 := by kernel_rfl
def T20 : Tree := (.op (O (.assign (.const (.int .i64 0))) 26) (.op (O (.call ⟨(.value (.func 32)), #[(.tmp 1), (.const (.slice Option.none 0 0))], #[25, 41]⟩) 26) (.op (O (.binOp .neq 26 (.tmp 0) (.const (.int .i64 0)) 26) 4) (.cond (.tmp 0) (.ret [(.tmp 1)]) (.op (O (.nilCheck (.tmp 3)) 0) (.op (O (.fieldAddr 62 (.tmp 0) 3) 0) (.op (O (.load 60 (.tmp 0)) 60) (.op (O (.call ⟨(.builtin .len), #[(.tmp 0)], #[60]⟩) 3) (.op (O (.call ⟨(.value (.func 45)), #[(.tmp 7), (.tmp 0)], #[25, 3]⟩) 0) (.op (O (.call ⟨(.value (.func 46)), #[(.tmp 8)], #[25]⟩) 0) (.op (O (.assign (.const (.int .i64 0))) 26) (.ret [(.tmp 0)]))))))))))))
def H20 : List (Nat × Nat) := []
theorem T20_ok : tree H20 Try.f20 1 = some T20 := by kernel_rfl
def T28 : Tree := (.op (O (.box 9 (.tmp 1)) 0) (.op (O (.assign (.const (.int .i64 0))) 26) (.op (O (.load 9 (.tmp 1)) 9) (.op (O (.buildSlice 41 1 #[(0, (.tmp 0))]) 41) (.op (O (.call ⟨(.value (.func 32)), #[(.tmp 4), (.tmp 0)], #[25, 41]⟩) 26) (.op (O (.binOp .neq 26 (.tmp 0) (.const (.int .i64 0)) 26) 4) (.cond (.tmp 0) (.ret [(.tmp 1)]) (.draw [⟨none, (O (.nilCheck (.tmp 6)) 0)⟩, ⟨none, (O (.fieldAddr 62 (.tmp 0) 2) 0)⟩, ⟨none, (O (.load 58 (.tmp 0)) 58)⟩, ⟨none, (O (.nilCheck (.tmp 0)) 0)⟩, ⟨none, (O (.fieldAddr 66 (.tmp 0) 0) 0)⟩, ⟨none, (O (.load 64 (.tmp 0)) 64)⟩, ⟨none, (O (.load 9 (.tmp 11)) 9)⟩, ⟨none, (O (.lookup 64 (.tmp 1) (.tmp 0) .false) 63)⟩, ⟨none, (O (.binOp .eql 63 (.tmp 0) (.const (.pointer Option.none)) 63) 4)⟩] (.cond (.tmp 0) (.op (O (.assign (.const (.int .i64 7))) 26) (.ret [(.tmp 0)])) (.op (O (.makeFunc (.func 62) #[] #[(.tmp 14)]) 79) (.op (O (.call ⟨(.value (.func 34)), #[(.tmp 16), (.tmp 0)], #[25, 100]⟩) 26) (.ret [(.tmp 0)]))))))))))))
def H28 : List (Nat × Nat) := []
theorem T28_ok : tree H28 Try.f28 2 = some T28 := by kernel_rfl
def T36 : Tree := (.op (O (.nilCheck (.tmp 0)) 0) (.op (O (.fieldAddr 66 (.tmp 0) 0) 0) (.op (O (.load 64 (.tmp 0)) 64) (.op (O (.lookup 64 (.tmp 0) (.tmp 4) .false) 63) (.op (O (.binOp .eql 63 (.tmp 0) (.const (.pointer Option.none)) 63) 4) (.cond (.tmp 0) (.ret []) (.op (O (.nilCheck (.tmp 5)) 0) (.op (O (.fieldAddr 66 (.tmp 0) 0) 0) (.op (O (.load 64 (.tmp 0)) 64) (.op (O (.call ⟨(.builtin .delete), #[(.tmp 0), (.tmp 9)], #[64, 9]⟩) 0) (.op (O (.nilCheck (.tmp 5)) 0) (.op (O (.fieldAddr 73 (.tmp 0) 1) 0) (.op (O (.call ⟨(.value (.func 68)), #[(.tmp 0), (.const (.int .i32 (-1)))], #[71, 21]⟩) 21) (.op (O (.binOp .eql 21 (.tmp 0) (.const (.int .i32 0)) 21) 4) (.cond (.tmp 0) (.draw [⟨none, (O (.nilCheck (.tmp 13)) 0)⟩, ⟨none, (O (.fieldAddr 66 (.tmp 0) 1) 0)⟩, ⟨none, (O (.load 3 (.tmp 0)) 3)⟩, ⟨none, (O (.nilCheck (.tmp 12)) 0)⟩, ⟨none, (O (.fieldAddr 73 (.tmp 0) 0) 0)⟩, ⟨none, (O (.load 23 (.tmp 0)) 23)⟩, ⟨none, (O (.call ⟨(.builtin .len), #[(.tmp 0)], #[23]⟩) 3)⟩, ⟨none, (O (.binOp .sub 3 (.tmp 4) (.tmp 0) 3) 3)⟩, ⟨none, (O (.nilCheck (.tmp 21)) 0)⟩, ⟨none, (O (.fieldAddr 66 (.tmp 0) 1) 0)⟩] (.op (O (.store 3 (.tmp 0) (.tmp 2)) 0) (.ret []))) (.ret []))))))))))))))))
def H36 : List (Nat × Nat) := [(4, 12)]
theorem T36_ok : tree H36 Try.f36 2 = some T36 := by kernel_rfl
def T52 : Tree := (.op (O (.assign (.const (.bool .false))) 4) (.op (O (.call ⟨(.builtin .len), #[(.tmp 1)], #[23]⟩) 3) (.op (O (.call ⟨(.builtin .len), #[(.tmp 3)], #[23]⟩) 3) (.op (O (.binOp .add 3 (.tmp 0) (.const (.int .i64 1)) 3) 3) (.op (O (.binOp .eql 3 (.tmp 2) (.tmp 0) 3) 4) (.gop (.tmp 0) .true (O (.move (.tmp 5)) 23) (.gop (.tmp 1) .true (O (.move (.tmp 7)) 23) (.gop (.tmp 2) .true (O (.call ⟨(.builtin .len), #[(.tmp 0)], #[23]⟩) 3) (.gop (.tmp 3) .true (O (.slice 23 (.tmp 2) none (some (.tmp 0)) none) 23) (.gop (.tmp 4) .true (O (.move (.tmp 10)) 23) (.gop (.tmp 5) .true (O (.call ⟨(.value (.func 14)), #[(.tmp 1), (.tmp 0)], #[23, 23]⟩) 4) (.op (O (.pick (.tmp 6) (.tmp 0) (.const (.bool .false))) 4) (.gop (.tmp 0) .true (O (.move (.tmp 12)) 23) (.gop (.tmp 1) .true (O (.move (.tmp 14)) 23) (.gop (.tmp 2) .true (O (.call ⟨(.builtin .len), #[(.tmp 0)], #[23]⟩) 3) (.gop (.tmp 3) .true (O (.indexAddr 23 (.tmp 2) (.tmp 0)) 0) (.gop (.tmp 4) .true (O (.load 5 (.tmp 0)) 5) (.gop (.tmp 5) .true (O (.binOp .eql 5 (.tmp 0) (.const (.int .u8 171)) 5) 4) (.op (O (.pick (.tmp 6) (.tmp 0) (.const (.bool .false))) 4) (.ret [(.tmp 0)]))))))))))))))))))))
def H52 : List (Nat × Nat) := []
theorem T52_ok : tree H52 Try.f52 2 = some T52 := by kernel_rfl
def T60 : Tree := (.op (O (.assign (.const (.slice Option.none 0 0))) 23) (.op (O (.assign (.const (.int .i64 0))) 3) (.op (O (.nilCheck (.tmp 2)) 0) (.op (O (.fieldAddr 92 (.tmp 0) 2) 0) (.op (O (.load 86 (.tmp 0)) 86) (.op (O (.call ⟨(.value (.func 76)), #[(.tmp 0), (.tmp 6)], #[86, 9]⟩) 110) (.op (O (.binOp .eql 110 (.tmp 0) (.const (.pointer Option.none)) 110) 4) (.cond (.tmp 0) (.op (O (.assign (.const (.slice Option.none 0 0))) 23) (.op (O (.assign (.const (.int .i64 7))) 3) (.ret [(.tmp 1), (.tmp 0)]))) (.op (O (.buildSlice 23 0 #[]) 23) (.op (O (.nilCheck (.tmp 2)) 0) (.op (O (.fieldAddr 116 (.tmp 0) 0) 0) (.op (O (.load 23 (.tmp 0)) 23) (.op (O (.call ⟨(.builtin .append), #[(.tmp 3), (.tmp 0)], #[23, 23]⟩) 23) (.op (O (.assign (.const (.int .i64 0))) 3) (.ret [(.tmp 1), (.tmp 0)])))))))))))))))
def H60 : List (Nat × Nat) := []
theorem T60_ok : tree H60 Try.f60 2 = some T60 := by kernel_rfl
def T68 : Tree := (.op (O (.assign (.const (.int .i32 0))) 21) (.op (O (.nilCheck (.tmp 1)) 0) (.op (O (.fieldAddr 71 (.tmp 0) 1) 0) (.op (O (.call ⟨(.value (.func 85)), #[(.tmp 0), (.tmp 4)], #[105, 21]⟩) 21) (.ret [(.tmp 0)])))))
def H68 : List (Nat × Nat) := []
theorem T68_ok : tree H68 Try.f68 2 = some T68 := by kernel_rfl
def T76 : Tree := (.op (O (.assign (.const (.pointer Option.none))) 110) (.op (O (.call ⟨(.value (.func 98)), #[(.tmp 1), (.tmp 2)], #[86, 9]⟩) 128) (.op (O (.extract (.tmp 0) 0) 3) (.op (O (.extract (.tmp 1) 1) 4) (.op (O (.unOp .not 4 (.tmp 0)) 4) (.cond (.tmp 0) (.op (O (.assign (.const (.pointer Option.none))) 110) (.ret [(.tmp 0)])) (.op (O (.nilCheck (.tmp 5)) 0) (.op (O (.fieldAddr 89 (.tmp 0) 1) 0) (.op (O (.load 87 (.tmp 0)) 87) (.op (O (.indexAddr 87 (.tmp 0) (.tmp 5)) 0) (.op (O (.load 110 (.tmp 0)) 110) (.ret [(.tmp 0)]))))))))))))
def H76 : List (Nat × Nat) := []
theorem T76_ok : tree H76 Try.f76 2 = some T76 := by kernel_rfl
def T84 : Tree := (.op (O (.assign (.const (.int .i64 0))) 3) (.op (O (.call ⟨(.builtin .len), #[(.tmp 1)], #[41]⟩) 3) (.op (O (.move (.const (.int .i64 0))) 3) (.loop [(.tmp 0)] (.op (O (.binOp .lss 3 (.tmp 0) (.tmp 2) 3) 0) (.cond (.tmp 0) (.op (O (.indexAddr 41 (.tmp 5) (.tmp 1)) 0) (.op (O (.load 9 (.tmp 0)) 9) (.op (O (.call ⟨(.value (.tmp 8)), #[(.tmp 0)], #[9]⟩) 4) (.cond (.tmp 0) (.ret [(.tmp 4)]) (.op (O (.binOp .add 3 (.tmp 4) (.const (.int .i64 1)) 3) 3) (.back 0 [(.tmp 0)])))))) (.op (O (.assign (.const (.int .i64 (-1)))) 3) (.ret [(.tmp 0)]))))))))
def H84 : List (Nat × Nat) := []
theorem T84_ok : tree H84 Try.f84 2 = some T84 := by kernel_rfl
def T100 : Tree := (.op (O (.call ⟨(.value (.func 98)), #[(.tmp 0), (.tmp 1)], #[86, 9]⟩) 128) (.op (O (.extract (.tmp 0) 0) 3) (.op (O (.extract (.tmp 1) 1) 4) (.cond (.tmp 0) (.op (O (.nilCheck (.tmp 3)) 0) (.op (O (.fieldAddr 89 (.tmp 0) 1) 0) (.op (O (.load 87 (.tmp 0)) 87) (.op (O (.indexAddr 87 (.tmp 0) (.tmp 4)) 0) (.op (O (.store 110 (.tmp 0) (.tmp 9)) 0) (.ret [])))))) (.op (O (.nilCheck (.tmp 3)) 0) (.op (O (.fieldAddr 89 (.tmp 0) 0) 0) (.op (O (.load 41 (.tmp 0)) 41) (.op (O (.buildSlice 41 1 #[(0, (.const (.string { data := #[] })))]) 41) (.op (O (.call ⟨(.builtin .append), #[(.tmp 1), (.tmp 0)], #[41, 41]⟩) 41) (.op (O (.nilCheck (.tmp 8)) 0) (.op (O (.fieldAddr 89 (.tmp 0) 0) 0) (.op (O (.store 41 (.tmp 0) (.tmp 2)) 0) (.op (O (.nilCheck (.tmp 11)) 0) (.op (O (.fieldAddr 89 (.tmp 0) 1) 0) (.op (O (.load 87 (.tmp 0)) 87) (.op (O (.buildSlice 87 1 #[(0, (.const (.pointer Option.none)))]) 87) (.op (O (.call ⟨(.builtin .append), #[(.tmp 1), (.tmp 0)], #[87, 87]⟩) 87) (.op (O (.nilCheck (.tmp 16)) 0) (.op (O (.fieldAddr 89 (.tmp 0) 1) 0) (.op (O (.store 87 (.tmp 0) (.tmp 2)) 0) (.draw [⟨none, (O (.nilCheck (.tmp 19)) 0)⟩, ⟨none, (O (.fieldAddr 89 (.tmp 0) 0) 0)⟩, ⟨none, (O (.load 41 (.tmp 0)) 41)⟩, ⟨none, (O (.binOp .add 3 (.tmp 20) (.const (.int .i64 1)) 3) 3)⟩, ⟨none, (O (.slice 41 (.tmp 1) (some (.tmp 0)) none none) 41)⟩, ⟨none, (O (.nilCheck (.tmp 24)) 0)⟩, ⟨none, (O (.fieldAddr 89 (.tmp 0) 0) 0)⟩, ⟨none, (O (.load 41 (.tmp 0)) 41)⟩, ⟨none, (O (.slice 41 (.tmp 0) (some (.tmp 25)) none none) 41)⟩] (.op (O (.call ⟨(.builtin .copy), #[(.tmp 4), (.tmp 0)], #[41, 41]⟩) 3) (.draw [⟨none, (O (.nilCheck (.tmp 29)) 0)⟩, ⟨none, (O (.fieldAddr 89 (.tmp 0) 1) 0)⟩, ⟨none, (O (.load 87 (.tmp 0)) 87)⟩, ⟨none, (O (.binOp .add 3 (.tmp 30) (.const (.int .i64 1)) 3) 3)⟩, ⟨none, (O (.slice 87 (.tmp 1) (some (.tmp 0)) none none) 87)⟩, ⟨none, (O (.nilCheck (.tmp 34)) 0)⟩, ⟨none, (O (.fieldAddr 89 (.tmp 0) 1) 0)⟩, ⟨none, (O (.load 87 (.tmp 0)) 87)⟩, ⟨none, (O (.slice 87 (.tmp 0) (some (.tmp 35)) none none) 87)⟩] (.op (O (.call ⟨(.builtin .copy), #[(.tmp 4), (.tmp 0)], #[87, 87]⟩) 3) (.op (O (.nilCheck (.tmp 39)) 0) (.op (O (.fieldAddr 89 (.tmp 0) 0) 0) (.op (O (.load 41 (.tmp 0)) 41) (.op (O (.indexAddr 41 (.tmp 0) (.tmp 40)) 0) (.op (O (.store 9 (.tmp 0) (.tmp 44)) 0) (.op (O (.nilCheck (.tmp 44)) 0) (.op (O (.fieldAddr 89 (.tmp 0) 1) 0) (.op (O (.load 87 (.tmp 0)) 87) (.op (O (.indexAddr 87 (.tmp 0) (.tmp 45)) 0) (.op (O (.store 110 (.tmp 0) (.tmp 50)) 0) (.ret [])))))))))))))))))))))))))))))))))))
def H100 : List (Nat × Nat) := [(5, 13), (6, 13)]
theorem T100_ok : tree H100 Try.f100 3 = some T100 := by kernel_rfl
end Go.Proofs.Ytckpegkpdepokaa
/-! Ta6 -/
namespace Go.Proofs.Ytckpegkpdepokaa
open Go Go.Sx
set_option maxRecDepth 100000
def T13 : Tree := (.op (O (.box 9 (.tmp 1)) 0) (.op (O (.box 23 (.tmp 3)) 0) (.op (O (.assign (.const (.int .i64 0))) 26) (.op (O (.load 9 (.tmp 2)) 9) (.op (O (.buildSlice 41 1 #[(0, (.tmp 0))]) 41) (.op (O (.call ⟨(.value (.func 32)), #[(.tmp 5), (.tmp 0)], #[25, 41]⟩) 26) (.op (O (.binOp .neq 26 (.tmp 0) (.const (.int .i64 0)) 26) 4) (.cond (.tmp 0) (.ret [(.tmp 1)]) (.op (O (.load 23 (.tmp 5)) 23) (.op (O (.call ⟨(.builtin .len), #[(.tmp 0)], #[23]⟩) 3) (.op (O (.binOp .gtr 3 (.tmp 0) (.const (.int .i64 1048576)) 3) 4) (.cond (.tmp 0) (.op (O (.assign (.const (.int .i64 5))) 26) (.ret [(.tmp 0)])) (.draw [⟨none, (O (.nilCheck (.tmp 10)) 0)⟩, ⟨none, (O (.fieldAddr 62 (.tmp 0) 2) 0)⟩, ⟨none, (O (.load 58 (.tmp 0)) 58)⟩, ⟨none, (O (.nilCheck (.tmp 0)) 0)⟩, ⟨none, (O (.fieldAddr 66 (.tmp 0) 0) 0)⟩, ⟨none, (O (.load 64 (.tmp 0)) 64)⟩, ⟨none, (O (.load 9 (.tmp 15)) 9)⟩, ⟨none, (O (.lookup 64 (.tmp 1) (.tmp 0) .false) 63)⟩] (.op (O (.assign (.const (.int .i64 0))) 3) (.op (O (.binOp .neq 63 (.tmp 1) (.const (.pointer Option.none)) 63) 4) (.gop (.tmp 0) .true (O (.move (.tmp 2)) 63) (.gop (.tmp 1) .true (O (.nilCheck (.tmp 0)) 0) (.gop (.tmp 2) .true (O (.fieldAddr 73 (.tmp 0) 1) 0) (.gop (.tmp 3) .true (O (.call ⟨(.value (.func 33)), #[(.tmp 0)], #[71]⟩) 21) (.gop (.tmp 4) .true (O (.binOp .eql 21 (.tmp 0) (.const (.int .i32 1)) 21) 4) (.op (O (.pick (.tmp 5) (.tmp 0) (.const (.bool .false))) 4) (.cond (.tmp 0) (.op (O (.nilCheck (.tmp 8)) 0) (.op (O (.fieldAddr 73 (.tmp 0) 0) 0) (.op (O (.load 23 (.tmp 0)) 23) (.op (O (.call ⟨(.builtin .len), #[(.tmp 0)], #[23]⟩) 3) (.draw [⟨none, (O (.binOp .eql 63 (.tmp 12) (.const (.pointer Option.none)) 63) 4)⟩, ⟨(some ((.tmp 0), .true)), (O (.move (.tmp 31)) 25)⟩, ⟨(some ((.tmp 1), .true)), (O (.nilCheck (.tmp 0)) 0)⟩, ⟨(some ((.tmp 2), .true)), (O (.fieldAddr 62 (.tmp 0) 2) 0)⟩, ⟨(some ((.tmp 3), .true)), (O (.load 58 (.tmp 0)) 58)⟩, ⟨(some ((.tmp 4), .true)), (O (.nilCheck (.tmp 0)) 0)⟩, ⟨(some ((.tmp 5), .true)), (O (.fieldAddr 66 (.tmp 0) 0) 0)⟩, ⟨(some ((.tmp 6), .true)), (O (.load 64 (.tmp 0)) 64)⟩, ⟨(some ((.tmp 7), .true)), (O (.call ⟨(.builtin .len), #[(.tmp 0)], #[64]⟩) 3)⟩, ⟨(some ((.tmp 8), .true)), (O (.binOp .geq 3 (.tmp 0) (.const (.int .i64 16384)) 3) 4)⟩, ⟨none, (O (.pick (.tmp 9) (.tmp 0) (.const (.bool .false))) 4)⟩, ⟨(some ((.tmp 0), .false)), (O (.move (.tmp 41)) 25)⟩, ⟨(some ((.tmp 1), .false)), (O (.nilCheck (.tmp 0)) 0)⟩, ⟨(some ((.tmp 2), .false)), (O (.fieldAddr 62 (.tmp 0) 2) 0)⟩, ⟨(some ((.tmp 3), .false)), (O (.load 58 (.tmp 0)) 58)⟩, ⟨(some ((.tmp 4), .false)), (O (.nilCheck (.tmp 0)) 0)⟩, ⟨(some ((.tmp 5), .false)), (O (.fieldAddr 66 (.tmp 0) 1) 0)⟩, ⟨(some ((.tmp 6), .false)), (O (.load 3 (.tmp 0)) 3)⟩, ⟨(some ((.tmp 7), .false)), (O (.move (.tmp 18)) 3)⟩, ⟨(some ((.tmp 8), .false)), (O (.binOp .sub 3 (.tmp 1) (.tmp 0) 3) 3)⟩, ⟨(some ((.tmp 9), .false)), (O (.load 23 (.tmp 48)) 23)⟩, ⟨(some ((.tmp 10), .false)), (O (.call ⟨(.builtin .len), #[(.tmp 0)], #[23]⟩) 3)⟩, ⟨(some ((.tmp 11), .false)), (O (.binOp .add 3 (.tmp 2) (.tmp 0) 3) 3)⟩, ⟨(some ((.tmp 12), .false)), (O (.move (.tmp 53)) 25)⟩, ⟨(some ((.tmp 13), .false)), (O (.nilCheck (.tmp 0)) 0)⟩, ⟨(some ((.tmp 14), .false)), (O (.fieldAddr 62 (.tmp 0) 0) 0)⟩, ⟨(some ((.tmp 15), .false)), (O (.load 3 (.tmp 0)) 3)⟩, ⟨(some ((.tmp 16), .false)), (O (.binOp .gtr 3 (.tmp 4) (.tmp 0) 3) 4)⟩, ⟨none, (O (.pick (.tmp 17) (.const (.bool .true)) (.tmp 0)) 4)⟩] (.cond (.tmp 0) (.op (O (.assign (.const (.int .i64 6))) 26) (.ret [(.tmp 0)])) (.op (O (.load 23 (.tmp 57)) 23) (.op (O (.call ⟨(.value (.func 31)), #[(.tmp 0)], #[23]⟩) 23) (.op (O (.store 23 (.tmp 59) (.tmp 0)) 0) (.op (O (.makeFunc (.func 35) #[] #[(.tmp 61), (.tmp 60)]) 79) (.op (O (.call ⟨(.value (.func 34)), #[(.tmp 63), (.tmp 0)], #[25, 100]⟩) 26) (.ret [(.tmp 0)])))))))))))) (.draw [⟨none, (O (.binOp .eql 63 (.tmp 8) (.const (.pointer Option.none)) 63) 4)⟩, ⟨(some ((.tmp 0), .true)), (O (.move (.tmp 27)) 25)⟩, ⟨(some ((.tmp 1), .true)), (O (.nilCheck (.tmp 0)) 0)⟩, ⟨(some ((.tmp 2), .true)), (O (.fieldAddr 62 (.tmp 0) 2) 0)⟩, ⟨(some ((.tmp 3), .true)), (O (.load 58 (.tmp 0)) 58)⟩, ⟨(some ((.tmp 4), .true)), (O (.nilCheck (.tmp 0)) 0)⟩, ⟨(some ((.tmp 5), .true)), (O (.fieldAddr 66 (.tmp 0) 0) 0)⟩, ⟨(some ((.tmp 6), .true)), (O (.load 64 (.tmp 0)) 64)⟩, ⟨(some ((.tmp 7), .true)), (O (.call ⟨(.builtin .len), #[(.tmp 0)], #[64]⟩) 3)⟩, ⟨(some ((.tmp 8), .true)), (O (.binOp .geq 3 (.tmp 0) (.const (.int .i64 16384)) 3) 4)⟩, ⟨none, (O (.pick (.tmp 9) (.tmp 0) (.const (.bool .false))) 4)⟩, ⟨(some ((.tmp 0), .false)), (O (.move (.tmp 37)) 25)⟩, ⟨(some ((.tmp 1), .false)), (O (.nilCheck (.tmp 0)) 0)⟩, ⟨(some ((.tmp 2), .false)), (O (.fieldAddr 62 (.tmp 0) 2) 0)⟩, ⟨(some ((.tmp 3), .false)), (O (.load 58 (.tmp 0)) 58)⟩, ⟨(some ((.tmp 4), .false)), (O (.nilCheck (.tmp 0)) 0)⟩, ⟨(some ((.tmp 5), .false)), (O (.fieldAddr 66 (.tmp 0) 1) 0)⟩, ⟨(some ((.tmp 6), .false)), (O (.load 3 (.tmp 0)) 3)⟩, ⟨(some ((.tmp 7), .false)), (O (.move (.tmp 25)) 3)⟩, ⟨(some ((.tmp 8), .false)), (O (.binOp .sub 3 (.tmp 1) (.tmp 0) 3) 3)⟩, ⟨(some ((.tmp 9), .false)), (O (.load 23 (.tmp 44)) 23)⟩, ⟨(some ((.tmp 10), .false)), (O (.call ⟨(.builtin .len), #[(.tmp 0)], #[23]⟩) 3)⟩, ⟨(some ((.tmp 11), .false)), (O (.binOp .add 3 (.tmp 2) (.tmp 0) 3) 3)⟩, ⟨(some ((.tmp 12), .false)), (O (.move (.tmp 49)) 25)⟩, ⟨(some ((.tmp 13), .false)), (O (.nilCheck (.tmp 0)) 0)⟩, ⟨(some ((.tmp 14), .false)), (O (.fieldAddr 62 (.tmp 0) 0) 0)⟩, ⟨(some ((.tmp 15), .false)), (O (.load 3 (.tmp 0)) 3)⟩, ⟨(some ((.tmp 16), .false)), (O (.binOp .gtr 3 (.tmp 4) (.tmp 0) 3) 4)⟩, ⟨none, (O (.pick (.tmp 17) (.const (.bool .true)) (.tmp 0)) 4)⟩] (.cond (.tmp 0) (.op (O (.assign (.const (.int .i64 6))) 26) (.ret [(.tmp 0)])) (.op (O (.load 23 (.tmp 53)) 23) (.op (O (.call ⟨(.value (.func 31)), #[(.tmp 0)], #[23]⟩) 23) (.op (O (.store 23 (.tmp 55) (.tmp 0)) 0) (.op (O (.makeFunc (.func 35) #[] #[(.tmp 57), (.tmp 56)]) 79) (.op (O (.call ⟨(.value (.func 34)), #[(.tmp 59), (.tmp 0)], #[25, 100]⟩) 26) (.ret [(.tmp 0)]))))))))))))))))))))))))))))))
def H13 : List (Nat × Nat) := []
theorem T13_ok : tree H13 Try.f13 3 = some T13 := by kernel_rfl
def T21 : Tree := (.op (O (.binOp .eql 25 (.tmp 0) (.const (.pointer Option.none)) 25) 4) (.cond (.tmp 0) (.ret []) (.op (O (.call ⟨(.value (.func 47)), #[(.tmp 1)], #[25]⟩) 0) (.op (O (.nilCheck (.tmp 2)) 0) (.op (O (.fieldAddr 62 (.tmp 0) 3) 0) (.op (O (.load 60 (.tmp 0)) 60) (.op (O (.call ⟨(.builtin .len), #[(.tmp 0)], #[60]⟩) 3) (.op (O (.call ⟨(.builtin .min), #[(.tmp 0), (.tmp 7)], #[3, 3]⟩) 3) (.op (O (.call ⟨(.builtin .max), #[(.const (.int .i64 0)), (.tmp 0)], #[3, 3]⟩) 3) (.op (O (.call ⟨(.value (.func 45)), #[(.tmp 8), (.tmp 0)], #[25, 3]⟩) 0) (.op (O (.nilCheck (.tmp 9)) 0) (.op (O (.fieldAddr 62 (.tmp 0) 1) 0) (.op (O (.load 58 (.tmp 0)) 58) (.op (O (.call ⟨(.value (.func 48)), #[(.tmp 0)], #[58]⟩) 58) (.op (O (.nilCheck (.tmp 13)) 0) (.op (O (.fieldAddr 62 (.tmp 0) 2) 0) (.op (O (.store 58 (.tmp 0) (.tmp 2)) 0) (.op (O (.nilCheck (.tmp 16)) 0) (.op (O (.fieldAddr 62 (.tmp 0) 4) 0) (.op (O (.store 4 (.tmp 0) (.const (.bool .false))) 0) (.ret [])))))))))))))))))))))
def H21 : List (Nat × Nat) := []
theorem T21_ok : tree H21 Try.f21 2 = some T21 := by kernel_rfl
def T37 : Tree := (.op (O (.assign (.const (.slice Option.none 0 0))) 23) (.op (O (.call ⟨(.builtin .len), #[(.tmp 1)], #[23]⟩) 3) (.op (O (.call ⟨(.builtin .len), #[(.tmp 2)], #[23]⟩) 3) (.op (O (.slice 23 (.tmp 3) none (some (.tmp 1)) (some (.tmp 0))) 23) (.ret [(.tmp 0)])))))
def H37 : List (Nat × Nat) := []
theorem T37_ok : tree H37 Try.f37 1 = some T37 := by kernel_rfl
def T45 : Tree := (.op (O (.nilCheck (.tmp 0)) 0) (.op (O (.fieldAddr 62 (.tmp 0) 3) 0) (.op (O (.load 60 (.tmp 0)) 60) (.op (O (.slice 60 (.tmp 0) none (some (.tmp 4)) none) 60) (.op (O (.call ⟨(.builtin .len), #[(.tmp 0)], #[60]⟩) 3) (.op (O (.move (.const (.int .i64 0))) 3) (.loop [(.tmp 0)] (.op (O (.binOp .lss 3 (.tmp 0) (.tmp 2) 3) 0) (.cond (.tmp 0) (.op (O (.indexAddr 60 (.tmp 4) (.tmp 1)) 0) (.op (O (.load 100 (.tmp 0)) 100) (.op (O (.nilCheck (.tmp 10)) 0) (.op (O (.fieldAddr 62 (.tmp 0) 1) 0) (.op (O (.load 58 (.tmp 0)) 58) (.op (O (.call ⟨(.value (.tmp 3)), #[(.tmp 0)], #[58]⟩) 0) (.op (O (.binOp .add 3 (.tmp 7) (.const (.int .i64 1)) 3) 3) (.back 0 [(.tmp 0)])))))))) (.op (O (.nilCheck (.tmp 8)) 0) (.op (O (.fieldAddr 62 (.tmp 0) 3) 0) (.op (O (.store 60 (.tmp 0) (.const (.slice Option.none 0 0))) 0) (.ret [])))))))))))))
def H45 : List (Nat × Nat) := []
theorem T45_ok : tree H45 Try.f45 2 = some T45 := by kernel_rfl
def T53 : Tree := (.op (O (.buildSlice 23 1 #[(0, (.const (.int .u8 99)))]) 23) (.op (O (.call ⟨(.builtin .append), #[(.tmp 1), (.tmp 0)], #[23, 23]⟩) 23) (.op (O (.assign (.const (.int .i64 0))) 3) (.loop [(.tmp 0)] (.op (O (.call ⟨(.builtin .len), #[(.tmp 2)], #[23]⟩) 3) (.op (O (.binOp .lss 3 (.tmp 1) (.tmp 0) 3) 4) (.cond (.tmp 0) (.op (O (.indexAddr 23 (.tmp 4) (.tmp 2)) 0) (.op (O (.store 5 (.tmp 0) (.const (.int .u8 98))) 0) (.op (O (.binOp .add 3 (.tmp 4) (.const (.int .i64 1)) 3) 3) (.back 0 [(.tmp 0)])))) (.ret []))))))))
def H53 : List (Nat × Nat) := []
theorem T53_ok : tree H53 Try.f53 1 = some T53 := by kernel_rfl
def T61 : Tree := (.op (O (.load 9 (.tmp 1)) 9) (.op (O (.load 9 (.tmp 3)) 9) (.op (O (.binOp .neq 9 (.tmp 1) (.tmp 0) 9) 4) (.cond (.tmp 0) (.mix (.mq none (O (.load 9 (.tmp 5)) 9) (.mq none (O (.nilCheck (.tmp 4)) 0) (.mq none (O (.fieldAddr 66 (.tmp 0) 0) 0) (.mq none (O (.load 64 (.tmp 0)) 64) (.mq none (O (.load 9 (.tmp 8)) 9) (.mq none (O (.lookup 64 (.tmp 1) (.tmp 0) .false) 63) (.op (O (.call ⟨(.value (.func 38)), #[(.tmp 9), (.tmp 5), (.tmp 0)], #[58, 9, 63]⟩) 0) (.mR (.mend (.op (O (.load 9 (.tmp 11)) 9) (.op (O (.call ⟨(.value (.func 36)), #[(.tmp 11), (.tmp 0)], #[58, 9]⟩) 0) (.ret []))))))))))))) (.ret [])))))
def H61 : List (Nat × Nat) := [(0, 99), (1, 99), (2, 99), (3, 99)]
theorem T61_ok : tree H61 Try.f61 3 = some T61 := by kernel_rfl
def T77 : Tree := (.op (O (.assign (.const (.int .i64 0))) 3) (.op (O (.assign (.const (.int .i64 0))) 3) (.op (O (.makeMap 135 none) 135) (.op (O (.assign (.const (.int .i64 0))) 3) (.loop [(.tmp 2), (.tmp 0)] (.op (O (.nilCheck (.tmp 6)) 0) (.op (O (.fieldAddr 92 (.tmp 0) 2) 0) (.op (O (.load 86 (.tmp 0)) 86) (.op (O (.nilCheck (.tmp 0)) 0) (.op (O (.fieldAddr 89 (.tmp 0) 1) 0) (.op (O (.load 87 (.tmp 0)) 87) (.op (O (.call ⟨(.builtin .len), #[(.tmp 0)], #[87]⟩) 3) (.op (O (.binOp .lss 3 (.tmp 8) (.tmp 0) 3) 4) (.cond (.tmp 0) (.op (O (.nilCheck (.tmp 14)) 0) (.op (O (.fieldAddr 92 (.tmp 0) 2) 0) (.op (O (.load 86 (.tmp 0)) 86) (.op (O (.nilCheck (.tmp 0)) 0) (.op (O (.fieldAddr 89 (.tmp 0) 1) 0) (.op (O (.load 87 (.tmp 0)) 87) (.op (O (.indexAddr 87 (.tmp 0) (.tmp 15)) 0) (.op (O (.load 110 (.tmp 0)) 110) (.op (O (.lookup 135 (.tmp 19) (.tmp 0) .false) 3) (.op (O (.binOp .eql 3 (.tmp 0) (.const (.int .i64 0)) 3) 4) (.cond (.tmp 0) (.op (O (.nilCheck (.tmp 24)) 0) (.op (O (.fieldAddr 92 (.tmp 0) 2) 0) (.op (O (.load 86 (.tmp 0)) 86) (.op (O (.nilCheck (.tmp 0)) 0) (.op (O (.fieldAddr 89 (.tmp 0) 1) 0) (.op (O (.load 87 (.tmp 0)) 87) (.op (O (.indexAddr 87 (.tmp 0) (.tmp 25)) 0) (.op (O (.load 110 (.tmp 0)) 110) (.op (O (.mapUpdate 135 (.tmp 29) (.tmp 0) (.const (.int .i64 1))) 0) (.op (O (.nilCheck (.tmp 33)) 0) (.op (O (.fieldAddr 92 (.tmp 0) 2) 0) (.op (O (.load 86 (.tmp 0)) 86) (.op (O (.nilCheck (.tmp 0)) 0) (.op (O (.fieldAddr 89 (.tmp 0) 1) 0) (.op (O (.load 87 (.tmp 0)) 87) (.op (O (.indexAddr 87 (.tmp 0) (.tmp 34)) 0) (.op (O (.load 110 (.tmp 0)) 110) (.op (O (.nilCheck (.tmp 0)) 0) (.op (O (.fieldAddr 116 (.tmp 0) 0) 0) (.op (O (.load 23 (.tmp 0)) 23) (.op (O (.call ⟨(.builtin .len), #[(.tmp 0)], #[23]⟩) 3) (.op (O (.binOp .add 3 (.tmp 39) (.tmp 0) 3) 3) (.op (O (.binOp .add 3 (.tmp 41) (.const (.int .i64 1)) 3) 3) (.back 0 [(.tmp 1), (.tmp 0)])))))))))))))))))))))))) (.op (O (.binOp .add 3 (.tmp 19) (.const (.int .i64 1)) 3) 3) (.back 0 [(.tmp 19), (.tmp 0)]))))))))))))) (.ret [(.tmp 8)])))))))))))))))
def H77 : List (Nat × Nat) := []
theorem T77_ok : tree H77 Try.f77 1 = some T77 := by kernel_rfl
def T101 : Tree := (.op (O (.call ⟨(.value (.func 98)), #[(.tmp 0), (.tmp 1)], #[86, 9]⟩) 128) (.op (O (.extract (.tmp 0) 0) 3) (.op (O (.extract (.tmp 1) 1) 4) (.cond (.tmp 0) (.mix (.mq none (O (.nilCheck (.tmp 3)) 0) (.mq none (O (.fieldAddr 89 (.tmp 0) 0) 0) (.mq none (O (.load 41 (.tmp 0)) 41) (.mq none (O (.slice 41 (.tmp 0) none (some (.tmp 4)) none) 41) (.mq none (O (.nilCheck (.tmp 7)) 0) (.mq none (O (.fieldAddr 89 (.tmp 0) 0) 0) (.mq none (O (.load 41 (.tmp 0)) 41) (.mq none (O (.binOp .add 3 (.tmp 8) (.const (.int .i64 1)) 3) 3) (.mq none (O (.slice 41 (.tmp 1) (some (.tmp 0)) none none) 41) (.op (O (.call ⟨(.builtin .append), #[(.tmp 5), (.tmp 0)], #[41, 41]⟩) 41) (.mD (.mq none (O (.nilCheck (.tmp 13)) 0) (.mq none (O (.fieldAddr 89 (.tmp 0) 0) 0) (.op (O (.store 41 (.tmp 0) (.tmp 2)) 0) (.mR (.mend (.mix (.mq none (O (.nilCheck (.tmp 16)) 0) (.mq none (O (.fieldAddr 89 (.tmp 0) 1) 0) (.mq none (O (.load 87 (.tmp 0)) 87) (.mq none (O (.slice 87 (.tmp 0) none (some (.tmp 17)) none) 87) (.mq none (O (.nilCheck (.tmp 20)) 0) (.mq none (O (.fieldAddr 89 (.tmp 0) 1) 0) (.mq none (O (.load 87 (.tmp 0)) 87) (.mq none (O (.binOp .add 3 (.tmp 21) (.const (.int .i64 1)) 3) 3) (.mq none (O (.slice 87 (.tmp 1) (some (.tmp 0)) none none) 87) (.op (O (.call ⟨(.builtin .append), #[(.tmp 5), (.tmp 0)], #[87, 87]⟩) 87) (.mD (.mq none (O (.nilCheck (.tmp 26)) 0) (.mq none (O (.fieldAddr 89 (.tmp 0) 1) 0) (.op (O (.store 87 (.tmp 0) (.tmp 2)) 0) (.mR (.mend (.ret []))))))))))))))))))))))))))))))))))) (.ret [])))))
def H101 : List (Nat × Nat) := [(2, 19), (3, 19)]
theorem T101_ok : tree H101 Try.f101 2 = some T101 := by kernel_rfl
end Go.Proofs.Ytckpegkpdepokaa
/-! Ta7 -/
namespace Go.Proofs.Ytckpegkpdepokaa
open Go Go.Sx
set_option maxRecDepth 100000
def T14 : Tree := (.op (O (.assign (.const (.bool .false))) 4) (.op (O (.call ⟨(.builtin .len), #[(.tmp 1)], #[23]⟩) 3) (.op (O (.call ⟨(.builtin .len), #[(.tmp 3)], #[23]⟩) 3) (.op (O (.binOp .neq 3 (.tmp 1) (.tmp 0) 3) 4) (.cond (.tmp 0) (.op (O (.assign (.const (.bool .false))) 4) (.ret [(.tmp 0)])) (.op (O (.assign (.const (.int .i64 0))) 3) (.loop [(.tmp 0)] (.op (O (.call ⟨(.builtin .len), #[(.tmp 6)], #[23]⟩) 3) (.op (O (.binOp .lss 3 (.tmp 1) (.tmp 0) 3) 4) (.cond (.tmp 0) (.draw [⟨none, (O (.indexAddr 23 (.tmp 8) (.tmp 2)) 0)⟩, ⟨none, (O (.load 5 (.tmp 0)) 5)⟩, ⟨none, (O (.indexAddr 23 (.tmp 11) (.tmp 4)) 0)⟩, ⟨none, (O (.load 5 (.tmp 0)) 5)⟩, ⟨none, (O (.binOp .neq 5 (.tmp 2) (.tmp 0) 5) 4)⟩] (.cond (.tmp 0) (.op (O (.assign (.const (.bool .false))) 4) (.ret [(.tmp 0)])) (.op (O (.binOp .add 3 (.tmp 7) (.const (.int .i64 1)) 3) 3) (.back 0 [(.tmp 0)])))) (.op (O (.assign (.const (.bool .true))) 4) (.ret [(.tmp 0)]))))))))))))
def H14 : List (Nat × Nat) := []
theorem T14_ok : tree H14 Try.f14 2 = some T14 := by kernel_rfl
def T22 : Tree := (.op (O (.assign (.const (.bool .false))) 4) (.op (O (.assign (.const (.int .i64 0))) 3) (.op (O (.assign (.const (.int .i64 0))) 3) (.loop [(.tmp 1), (.tmp 0)] (.op (O (.call ⟨(.builtin .len), #[(.tmp 5)], #[44]⟩) 3) (.op (O (.binOp .lss 3 (.tmp 2) (.tmp 0) 3) 4) (.gop (.tmp 0) .true (O (.move (.tmp 3)) 3) (.gop (.tmp 1) .true (O (.binOp .lss 3 (.tmp 0) (.const (.int .i64 120)) 3) 4) (.op (O (.pick (.tmp 2) (.tmp 0) (.const (.bool .false))) 4) (.cond (.tmp 0) (.draw [⟨none, (O (.indexAddr 44 (.tmp 10) (.tmp 6)) 0)⟩, ⟨none, (O (.fieldAddr 50 (.tmp 0) 2) 0)⟩, ⟨none, (O (.load 9 (.tmp 0)) 9)⟩, ⟨none, (O (.call ⟨(.builtin .len), #[(.tmp 0)], #[9]⟩) 3)⟩, ⟨none, (O (.binOp .add 3 (.tmp 9) (.tmp 0) 3) 3)⟩, ⟨none, (O (.indexAddr 44 (.tmp 15) (.tmp 11)) 0)⟩, ⟨none, (O (.fieldAddr 50 (.tmp 0) 3) 0)⟩, ⟨none, (O (.load 9 (.tmp 0)) 9)⟩, ⟨none, (O (.call ⟨(.builtin .len), #[(.tmp 0)], #[9]⟩) 3)⟩, ⟨none, (O (.binOp .add 3 (.tmp 4) (.tmp 0) 3) 3)⟩, ⟨none, (O (.indexAddr 44 (.tmp 20) (.tmp 16)) 0)⟩, ⟨none, (O (.fieldAddr 50 (.tmp 0) 4) 0)⟩, ⟨none, (O (.load 23 (.tmp 0)) 23)⟩, ⟨none, (O (.call ⟨(.builtin .len), #[(.tmp 0)], #[23]⟩) 3)⟩, ⟨none, (O (.binOp .add 3 (.tmp 4) (.tmp 0) 3) 3)⟩] (.op (O (.binOp .gtr 3 (.tmp 0) (.const (.int .i64 8000)) 3) 4) (.cond (.tmp 0) (.op (O (.assign (.const (.bool .true))) 4) (.ret [(.tmp 0)])) (.op (O (.binOp .add 3 (.tmp 22) (.const (.int .i64 1)) 3) 3) (.back 0 [(.tmp 2), (.tmp 0)]))))) (.op (O (.assign (.const (.bool .false))) 4) (.ret [(.tmp 0)]))))))))))))
def H22 : List (Nat × Nat) := []
theorem T22_ok : tree H22 Try.f22 1 = some T22 := by kernel_rfl
def T30 : Tree := (.op (O (.assign (.const (.pointer Option.none))) 58) (.op (O (.makeMap 64 none) 64) (.op (O (.build 66 #[(0, (.tmp 0))]) 66) (.op (O (.box 66 (.tmp 0)) 58) (.ret [(.tmp 0)])))))
def H30 : List (Nat × Nat) := []
theorem T30_ok : tree H30 Try.f30 0 = some T30 := by kernel_rfl
def T38 : Tree := (.op (O (.nilCheck (.tmp 2)) 0) (.op (O (.fieldAddr 73 (.tmp 0) 1) 0) (.op (O (.call ⟨(.value (.func 68)), #[(.tmp 0), (.const (.int .i32 1))], #[71, 21]⟩) 21) (.op (O (.nilCheck (.tmp 3)) 0) (.op (O (.fieldAddr 66 (.tmp 0) 0) 0) (.op (O (.load 64 (.tmp 0)) 64) (.op (O (.lookup 64 (.tmp 0) (.tmp 7) .false) 63) (.op (O (.binOp .neq 63 (.tmp 0) (.tmp 9) 63) 4) (.cond (.tmp 0) (.op (O (.call ⟨(.value (.func 36)), #[(.tmp 8), (.tmp 9)], #[58, 9]⟩) 0) (.op (O (.nilCheck (.tmp 9)) 0) (.op (O (.fieldAddr 66 (.tmp 0) 0) 0) (.op (O (.load 64 (.tmp 0)) 64) (.op (O (.mapUpdate 64 (.tmp 0) (.tmp 13) (.tmp 14)) 0) (.ret [])))))) (.op (O (.nilCheck (.tmp 10)) 0) (.op (O (.fieldAddr 73 (.tmp 0) 1) 0) (.op (O (.call ⟨(.value (.func 68)), #[(.tmp 0), (.const (.int .i32 (-1)))], #[71, 21]⟩) 21) (.op (O (.nilCheck (.tmp 11)) 0) (.op (O (.fieldAddr 66 (.tmp 0) 0) 0) (.op (O (.load 64 (.tmp 0)) 64) (.op (O (.mapUpdate 64 (.tmp 0) (.tmp 15) (.tmp 16)) 0) (.ret [])))))))))))))))))
def H38 : List (Nat × Nat) := []
theorem T38_ok : tree H38 Try.f38 3 = some T38 := by kernel_rfl
def T46 : Tree := (.op (O (.nilCheck (.tmp 0)) 0) (.op (O (.fieldAddr 62 (.tmp 0) 4) 0) (.op (O (.load 4 (.tmp 0)) 4) (.cond (.tmp 0) (.op (O (.nilCheck (.tmp 3)) 0) (.op (O (.fieldAddr 62 (.tmp 0) 5) 0) (.op (O (.load 3 (.tmp 0)) 3) (.op (O (.binOp .sub 3 (.tmp 0) (.const (.int .i64 1)) 3) 3) (.op (O (.nilCheck (.tmp 7)) 0) (.op (O (.fieldAddr 62 (.tmp 0) 5) 0) (.op (O (.store 3 (.tmp 0) (.tmp 2)) 0) (.ret [])))))))) (.ret [])))))
def H46 : List (Nat × Nat) := []
theorem T46_ok : tree H46 Try.f46 1 = some T46 := by kernel_rfl
def T54 : Tree := (.op (O (.assign (.const (.int .i64 0))) 3) (.op (O (.call ⟨(.value (.func 74)), #[(.tmp 1)], #[46]⟩) 4) (.cond (.tmp 0) (.op (O (.assign (.const (.int .i64 26))) 3) (.ret [(.tmp 0)])) (.op (O (.call ⟨(.value (.func 75)), #[(.tmp 3)], #[9]⟩) 4) (.op (O (.unOp .not 4 (.tmp 0)) 4) (.gop (.tmp 0) .false (O (.move (.tmp 6)) 9) (.gop (.tmp 1) .false (O (.call ⟨(.value (.func 75)), #[(.tmp 0)], #[9]⟩) 4) (.gop (.tmp 2) .false (O (.unOp .not 4 (.tmp 0)) 4) (.op (O (.pick (.tmp 3) (.const (.bool .true)) (.tmp 0)) 4) (.cond (.tmp 0) (.op (O (.assign (.const (.int .i64 9))) 3) (.ret [(.tmp 0)])) (.op (O (.nilCheck (.tmp 8)) 0) (.op (O (.fieldAddr 92 (.tmp 0) 2) 0) (.op (O (.load 86 (.tmp 0)) 86) (.op (O (.call ⟨(.value (.func 76)), #[(.tmp 0), (.tmp 12)], #[86, 9]⟩) 110) (.op (O (.binOp .eql 110 (.tmp 0) (.const (.pointer Option.none)) 110) 4) (.cond (.tmp 0) (.op (O (.assign (.const (.int .i64 7))) 3) (.ret [(.tmp 0)])) (.op (O (.nilCheck (.tmp 13)) 0) (.op (O (.fieldAddr 92 (.tmp 0) 2) 0) (.op (O (.load 86 (.tmp 0)) 86) (.op (O (.call ⟨(.value (.func 76)), #[(.tmp 0), (.tmp 18)], #[86, 9]⟩) 110) (.op (O (.binOp .neq 110 (.tmp 0) (.const (.pointer Option.none)) 110) 4) (.cond (.tmp 0) (.op (O (.assign (.const (.int .i64 8))) 3) (.ret [(.tmp 0)])) (.op (O (.nilCheck (.tmp 18)) 0) (.op (O (.fieldAddr 92 (.tmp 0) 2) 0) (.op (O (.load 86 (.tmp 0)) 86) (.op (O (.nilCheck (.tmp 0)) 0) (.op (O (.fieldAddr 89 (.tmp 0) 0) 0) (.op (O (.load 41 (.tmp 0)) 41) (.op (O (.call ⟨(.builtin .len), #[(.tmp 0)], #[41]⟩) 3) (.op (O (.binOp .geq 3 (.tmp 0) (.const (.int .i64 16384)) 3) 4) (.cond (.tmp 0) (.op (O (.assign (.const (.int .i64 6))) 3) (.ret [(.tmp 0)])) (.op (O (.build 114 #[(0, (.const (.int .i64 3))), (1, (.tmp 27)), (2, (.tmp 28))]) 114) (.op (O (.call ⟨(.value (.func 79)), #[(.tmp 27), (.tmp 0)], #[46, 114]⟩) 3) (.ret [(.tmp 0)]))))))))))))))))))))))))))))))))))
def H54 : List (Nat × Nat) := []
theorem T54_ok : tree H54 Try.f54 3 = some T54 := by kernel_rfl
def T62 : Tree := (.op (O (.load 9 (.tmp 1)) 9) (.op (O (.call ⟨(.value (.func 36)), #[(.tmp 1), (.tmp 0)], #[58, 9]⟩) 0) (.ret [])))
def H62 : List (Nat × Nat) := []
theorem T62_ok : tree H62 Try.f62 2 = some T62 := by kernel_rfl
def T78 : Tree := (.op (O (.assign (.const (.int .i64 0))) 3) (.op (O (.nilCheck (.tmp 1)) 0) (.op (O (.fieldAddr 92 (.tmp 0) 2) 0) (.op (O (.load 86 (.tmp 0)) 86) (.op (O (.call ⟨(.value (.func 76)), #[(.tmp 0), (.tmp 5)], #[86, 9]⟩) 110) (.op (O (.binOp .eql 110 (.tmp 0) (.const (.pointer Option.none)) 110) 4) (.gop (.tmp 0) .false (O (.move (.tmp 6)) 46) (.gop (.tmp 1) .false (O (.nilCheck (.tmp 0)) 0) (.gop (.tmp 2) .false (O (.fieldAddr 92 (.tmp 0) 2) 0) (.gop (.tmp 3) .false (O (.load 86 (.tmp 0)) 86) (.gop (.tmp 4) .false (O (.move (.tmp 5)) 110) (.gop (.tmp 5) .false (O (.call ⟨(.value (.func 99)), #[(.tmp 1), (.tmp 0)], #[86, 110]⟩) 3) (.gop (.tmp 6) .false (O (.binOp .gtr 3 (.tmp 0) (.const (.int .i64 1)) 3) 4) (.op (O (.pick (.tmp 7) (.const (.bool .true)) (.tmp 0)) 4) (.cond (.tmp 0) (.op (O (.assign (.const (.int .i64 0))) 3) (.ret [(.tmp 0)])) (.op (O (.nilCheck (.tmp 9)) 0) (.op (O (.fieldAddr 116 (.tmp 0) 0) 0) (.op (O (.load 23 (.tmp 0)) 23) (.op (O (.call ⟨(.builtin .len), #[(.tmp 0)], #[23]⟩) 3) (.ret [(.tmp 0)]))))))))))))))))))))
def H78 : List (Nat × Nat) := []
theorem T78_ok : tree H78 Try.f78 2 = some T78 := by kernel_rfl
end Go.Proofs.Ytckpegkpdepokaa
/-! Ta8 -/
namespace Go.Proofs.Ytckpegkpdepokaa
open Go Go.Sx
set_option maxRecDepth 100000
def T7 : Tree := (.op (O (.assign (.const (.bool .false))) 4) (.op (O (.call ⟨(.value (.func 22)), #[(.tmp 1)], #[44]⟩) 4) (.gop (.tmp 0) .false (O (.move (.tmp 3)) 3) (.gop (.tmp 1) .false (O (.binOp .lss 3 (.tmp 0) (.const (.int .i64 0)) 3) 4) (.op (O (.pick (.tmp 2) (.const (.bool .true)) (.tmp 0)) 4) (.cond (.tmp 0) (.op (O (.call ⟨(.value (.func 9)), #[], #[]⟩) 4) (.ret [(.tmp 0)])) (.op (O (.call ⟨(.value (.func 10)), #[(.const (.int .i64 1048576))], #[3]⟩) 27) (.op (O (.extract (.tmp 0) 0) 25) (.op (O (.extract (.tmp 1) 1) 26) (.op (O (.call ⟨(.value (.func 10)), #[(.const (.int .i64 1048576))], #[3]⟩) 27) (.op (O (.extract (.tmp 0) 0) 25) (.op (O (.extract (.tmp 1) 1) 26) (.op (O (.binOp .neq 26 (.tmp 3) (.const (.int .i64 0)) 26) 4) (.gop (.tmp 0) .false (O (.move (.tmp 1)) 26) (.gop (.tmp 1) .false (O (.binOp .neq 26 (.tmp 0) (.const (.int .i64 0)) 26) 4) (.op (O (.pick (.tmp 2) (.const (.bool .true)) (.tmp 0)) 4) (.gop (.tmp 0) .false (O (.move (.tmp 8)) 25) (.gop (.tmp 1) .false (O (.binOp .eql 25 (.tmp 0) (.const (.pointer Option.none)) 25) 4) (.op (O (.pick (.tmp 2) (.const (.bool .true)) (.tmp 0)) 4) (.gop (.tmp 0) .false (O (.move (.tmp 8)) 25) (.gop (.tmp 1) .false (O (.binOp .eql 25 (.tmp 0) (.const (.pointer Option.none)) 25) 4) (.op (O (.pick (.tmp 2) (.const (.bool .true)) (.tmp 0)) 4) (.cond (.tmp 0) (.op (O (.assign (.const (.bool .false))) 4) (.ret [(.tmp 0)])) (.op (O (.call ⟨(.value (.func 23)), #[(.const (.int .i64 1048576))], #[3]⟩) 47) (.op (O (.extract (.tmp 0) 0) 46) (.op (O (.extract (.tmp 1) 1) 3) (.op (O (.call ⟨(.value (.func 23)), #[(.const (.int .i64 1048576))], #[3]⟩) 47) (.op (O (.extract (.tmp 0) 0) 46) (.op (O (.extract (.tmp 1) 1) 3) (.op (O (.assign (.const (.int .i64 0))) 3) (.op (O (.assign (.const (.int .i64 0))) 3) (.loop [(.tmp 1), (.tmp 0)] (.op (O (.call ⟨(.builtin .len), #[(.tmp 31)], #[44]⟩) 3) (.op (O (.binOp .lss 3 (.tmp 2) (.tmp 0) 3) 4) (.gop (.tmp 0) .true (O (.move (.tmp 3)) 3) (.gop (.tmp 1) .true (O (.binOp .lss 3 (.tmp 0) (.const (.int .i64 120)) 3) 4) (.op (O (.pick (.tmp 2) (.tmp 0) (.const (.bool .false))) 4) (.cond (.tmp 0) (.op (O (.indexAddr 44 (.tmp 36) (.tmp 6)) 0) (.op (O (.fieldAddr 50 (.tmp 0) 0) 0) (.op (O (.load 3 (.tmp 0)) 3) (.op (O (.binOp .lss 3 (.tmp 0) (.const (.int .i64 1)) 3) 4) (.gop (.tmp 0) .false (O (.move (.tmp 40)) 44) (.gop (.tmp 1) .false (O (.move (.tmp 11)) 3) (.gop (.tmp 2) .false (O (.indexAddr 44 (.tmp 1) (.tmp 0)) 0) (.gop (.tmp 3) .false (O (.fieldAddr 50 (.tmp 0) 0) 0) (.gop (.tmp 4) .false (O (.load 3 (.tmp 0)) 3) (.gop (.tmp 5) .false (O (.binOp .gtr 3 (.tmp 0) (.const (.int .i64 5)) 3) 4) (.op (O (.pick (.tmp 6) (.const (.bool .true)) (.tmp 0)) 4) (.cond (.tmp 0) (.op (O (.binOp .add 3 (.tmp 17) (.const (.int .i64 1)) 3) 3) (.back 0 [(.tmp 17), (.tmp 0)])) (.op (O (.indexAddr 44 (.tmp 47) (.tmp 17)) 0) (.op (O (.load 50 (.tmp 0)) 50) (.op (O (.call ⟨(.value (.func 24)), #[(.tmp 42), (.tmp 26), (.tmp 0)], #[25, 46, 50]⟩) 4) (.op (O (.call ⟨(.value (.func 25)), #[(.tmp 43)], #[25]⟩) 3) (.op (O (.binOp .gtr 3 (.tmp 0) (.tmp 20) 3) 4) (.gop (.tmp 0) .true (O (.move (.tmp 45)) 25) (.gop (.tmp 1) .true (O (.call ⟨(.value (.func 25)), #[(.tmp 0)], #[25]⟩) 3) (.gop (.tmp 2) .true (O (.move (.tmp 55)) 3) (.gop (.tmp 3) .true (O (.binOp .leq 3 (.tmp 1) (.tmp 0) 3) 4) (.op (O (.pick (.tmp 4) (.tmp 0) (.const (.bool .false))) 4) (.cond (.tmp 0) (.op (O (.indexAddr 44 (.tmp 57) (.tmp 27)) 0) (.op (O (.load 50 (.tmp 0)) 50) (.op (O (.call ⟨(.value (.func 24)), #[(.tmp 49), (.tmp 33), (.tmp 0)], #[25, 46, 50]⟩) 4) (.op (O (.call ⟨(.value (.func 25)), #[(.tmp 53)], #[25]⟩) 3) (.op (O (.binOp .add 3 (.tmp 31) (.const (.int .i64 1)) 3) 3) (.back 0 [(.tmp 1), (.tmp 0)])))))) (.op (O (.call ⟨(.value (.func 25)), #[(.tmp 50)], #[25]⟩) 3) (.op (O (.binOp .add 3 (.tmp 28) (.const (.int .i64 1)) 3) 3) (.back 0 [(.tmp 1), (.tmp 0)])))))))))))))))))))))))))) (.op (O (.call ⟨(.value (.func 21)), #[(.tmp 29), (.tmp 37)], #[25, 3]⟩) 0) (.op (O (.call ⟨(.value (.func 19)), #[(.tmp 30), (.const (.string { data := #[] }))], #[25, 9]⟩) 41) (.op (O (.call ⟨(.value (.func 19)), #[(.tmp 28), (.const (.string { data := #[] }))], #[25, 9]⟩) 41) (.op (O (.call ⟨(.value (.func 26)), #[(.tmp 1), (.tmp 0)], #[41, 41]⟩) 4) (.op (O (.unOp .not 4 (.tmp 0)) 4) (.gop (.tmp 0) .false (O (.move (.tmp 34)) 25) (.gop (.tmp 1) .false (O (.call ⟨(.value (.func 12)), #[(.tmp 0)], #[25]⟩) 3) (.gop (.tmp 2) .false (O (.move (.tmp 33)) 25) (.gop (.tmp 3) .false (O (.call ⟨(.value (.func 12)), #[(.tmp 0)], #[25]⟩) 3) (.gop (.tmp 4) .false (O (.binOp .neq 3 (.tmp 2) (.tmp 0) 3) 4) (.op (O (.pick (.tmp 5) (.const (.bool .true)) (.tmp 0)) 4) (.cond (.tmp 0) (.op (O (.assign (.const (.bool .false))) 4) (.ret [(.tmp 0)])) (.op (O (.assign (.const (.int .i64 0))) 3) (.loop [(.tmp 0)] (.op (O (.call ⟨(.builtin .len), #[(.tmp 11)], #[41]⟩) 3) (.op (O (.binOp .lss 3 (.tmp 1) (.tmp 0) 3) 4) (.cond (.tmp 0) (.op (O (.indexAddr 41 (.tmp 13) (.tmp 2)) 0) (.op (O (.load 9 (.tmp 0)) 9) (.op (O (.call ⟨(.value (.func 11)), #[(.tmp 46), (.tmp 0)], #[25, 9]⟩) 29) (.op (O (.extract (.tmp 0) 0) 23) (.op (O (.extract (.tmp 1) 1) 26) (.op (O (.indexAddr 41 (.tmp 18) (.tmp 7)) 0) (.op (O (.load 9 (.tmp 0)) 9) (.op (O (.call ⟨(.value (.func 11)), #[(.tmp 48), (.tmp 0)], #[25, 9]⟩) 29) (.op (O (.extract (.tmp 0) 0) 23) (.op (O (.extract (.tmp 1) 1) 26) (.op (O (.indexAddr 41 (.tmp 23) (.tmp 12)) 0) (.op (O (.load 9 (.tmp 0)) 9) (.op (O (.call ⟨(.value (.func 17)), #[(.tmp 56), (.tmp 0)], #[25, 9]⟩) 36) (.op (O (.extract (.tmp 0) 0) 9) (.op (O (.extract (.tmp 1) 1) 3) (.op (O (.indexAddr 41 (.tmp 28) (.tmp 17)) 0) (.op (O (.load 9 (.tmp 0)) 9) (.op (O (.call ⟨(.value (.func 17)), #[(.tmp 58), (.tmp 0)], #[25, 9]⟩) 36) (.op (O (.extract (.tmp 0) 0) 9) (.op (O (.extract (.tmp 1) 1) 3) (.op (O (.call ⟨(.value (.func 14)), #[(.tmp 16), (.tmp 11)], #[23, 23]⟩) 4) (.op (O (.unOp .not 4 (.tmp 0)) 4) (.gop (.tmp 0) .false (O (.move (.tmp 8)) 9) (.gop (.tmp 1) .false (O (.move (.tmp 4)) 9) (.gop (.tmp 2) .false (O (.binOp .neq 9 (.tmp 1) (.tmp 0) 9) 4) (.op (O (.pick (.tmp 3) (.const (.bool .true)) (.tmp 0)) 4) (.gop (.tmp 0) .false (O (.move (.tmp 11)) 3) (.gop (.tmp 1) .false (O (.move (.tmp 7)) 3) (.gop (.tmp 2) .false (O (.binOp .neq 3 (.tmp 1) (.tmp 0) 3) 4) (.op (O (.pick (.tmp 3) (.const (.bool .true)) (.tmp 0)) 4) (.cond (.tmp 0) (.op (O (.assign (.const (.bool .false))) 4) (.ret [(.tmp 0)])) (.op (O (.binOp .add 3 (.tmp 32) (.const (.int .i64 1)) 3) 3) (.back 1 [(.tmp 0)]))))))))))))))))))))))))))))))))) (.op (O (.call ⟨(.value (.func 9)), #[], #[]⟩) 4) (.ret [(.tmp 0)])))))))))))))))))))))))))))))))))))))))))))))))))))))))))
def H7 : List (Nat × Nat) := []
theorem T7_ok : tree H7 Try.f7 2 = some T7 := by kernel_rfl
def T15 : Tree := (.op (O (.box 9 (.tmp 1)) 0) (.op (O (.box 9 (.tmp 3)) 0) (.op (O (.assign (.const (.int .i64 0))) 26) (.op (O (.load 9 (.tmp 2)) 9) (.op (O (.load 9 (.tmp 2)) 9) (.op (O (.buildSlice 41 2 #[(0, (.tmp 1)), (1, (.tmp 0))]) 41) (.op (O (.call ⟨(.value (.func 32)), #[(.tmp 6), (.tmp 0)], #[25, 41]⟩) 26) (.op (O (.binOp .neq 26 (.tmp 0) (.const (.int .i64 0)) 26) 4) (.cond (.tmp 0) (.ret [(.tmp 1)]) (.draw [⟨none, (O (.nilCheck (.tmp 8)) 0)⟩, ⟨none, (O (.fieldAddr 62 (.tmp 0) 2) 0)⟩, ⟨none, (O (.load 58 (.tmp 0)) 58)⟩, ⟨none, (O (.nilCheck (.tmp 0)) 0)⟩, ⟨none, (O (.fieldAddr 66 (.tmp 0) 0) 0)⟩, ⟨none, (O (.load 64 (.tmp 0)) 64)⟩, ⟨none, (O (.load 9 (.tmp 13)) 9)⟩, ⟨none, (O (.lookup 64 (.tmp 1) (.tmp 0) .false) 63)⟩, ⟨none, (O (.binOp .eql 63 (.tmp 0) (.const (.pointer Option.none)) 63) 4)⟩] (.cond (.tmp 0) (.op (O (.assign (.const (.int .i64 7))) 26) (.ret [(.tmp 0)])) (.draw [⟨none, (O (.nilCheck (.tmp 17)) 0)⟩, ⟨none, (O (.fieldAddr 62 (.tmp 0) 2) 0)⟩, ⟨none, (O (.load 58 (.tmp 0)) 58)⟩, ⟨none, (O (.nilCheck (.tmp 0)) 0)⟩, ⟨none, (O (.fieldAddr 66 (.tmp 0) 0) 0)⟩, ⟨none, (O (.load 64 (.tmp 0)) 64)⟩, ⟨none, (O (.load 9 (.tmp 21)) 9)⟩, ⟨none, (O (.lookup 64 (.tmp 1) (.tmp 0) .false) 63)⟩, ⟨none, (O (.binOp .neq 63 (.tmp 0) (.const (.pointer Option.none)) 63) 4)⟩] (.cond (.tmp 0) (.op (O (.assign (.const (.int .i64 8))) 26) (.ret [(.tmp 0)])) (.op (O (.nilCheck (.tmp 26)) 0) (.op (O (.fieldAddr 62 (.tmp 0) 2) 0) (.op (O (.load 58 (.tmp 0)) 58) (.op (O (.nilCheck (.tmp 0)) 0) (.op (O (.fieldAddr 66 (.tmp 0) 0) 0) (.op (O (.load 64 (.tmp 0)) 64) (.op (O (.call ⟨(.builtin .len), #[(.tmp 0)], #[64]⟩) 3) (.op (O (.binOp .geq 3 (.tmp 0) (.const (.int .i64 16384)) 3) 4) (.cond (.tmp 0) (.op (O (.assign (.const (.int .i64 6))) 26) (.ret [(.tmp 0)])) (.op (O (.makeFunc (.func 39) #[] #[(.tmp 32), (.tmp 33)]) 79) (.op (O (.call ⟨(.value (.func 34)), #[(.tmp 35), (.tmp 0)], #[25, 100]⟩) 26) (.ret [(.tmp 0)])))))))))))))))))))))))))
def H15 : List (Nat × Nat) := []
theorem T15_ok : tree H15 Try.f15 3 = some T15 := by kernel_rfl
def T23 : Tree := (.op (O (.assign (.const (.pointer Option.none))) 46) (.op (O (.assign (.const (.int .i64 0))) 3) (.op (O (.binOp .lss 3 (.tmp 2) (.const (.int .i64 0)) 3) 4) (.gop (.tmp 0) .false (O (.move (.tmp 3)) 3) (.gop (.tmp 1) .false (O (.binOp .gtr 3 (.tmp 0) (.const (.int .i64 1073741824)) 3) 4) (.op (O (.pick (.tmp 2) (.const (.bool .true)) (.tmp 0)) 4) (.cond (.tmp 0) (.op (O (.assign (.const (.pointer Option.none))) 46) (.op (O (.assign (.const (.int .i64 1))) 3) (.ret [(.tmp 1), (.tmp 0)]))) (.op (O (.build 89 #[]) 89) (.op (O (.box 89 (.tmp 0)) 86) (.op (O (.build 89 #[]) 89) (.op (O (.box 89 (.tmp 0)) 86) (.op (O (.build 92 #[(0, (.tmp 10)), (1, (.tmp 2)), (2, (.tmp 0)), (4, (.const (.int .i64 (-1))))]) 92) (.op (O (.box 92 (.tmp 0)) 46) (.op (O (.assign (.const (.int .i64 0))) 3) (.ret [(.tmp 1), (.tmp 0)])))))))))))))))
def H23 : List (Nat × Nat) := []
theorem T23_ok : tree H23 Try.f23 1 = some T23 := by kernel_rfl
def T31 : Tree := (.op (O (.assign (.const (.slice Option.none 0 0))) 23) (.op (O (.binOp .eql 23 (.tmp 1) (.const (.slice Option.none 0 0)) 23) 4) (.cond (.tmp 0) (.op (O (.assign (.const (.slice Option.none 0 0))) 23) (.ret [(.tmp 0)])) (.op (O (.buildSlice 23 0 #[]) 23) (.op (O (.call ⟨(.builtin .append), #[(.tmp 0), (.tmp 3)], #[23, 23]⟩) 23) (.ret [(.tmp 0)]))))))
def H31 : List (Nat × Nat) := []
theorem T31_ok : tree H31 Try.f31 1 = some T31 := by kernel_rfl
def T39 : Tree := (.mix (.mq none (O (.load 9 (.tmp 1)) 9) (.mq none (O (.nilCheck (.tmp 1)) 0) (.mq none (O (.fieldAddr 66 (.tmp 0) 0) 0) (.mq none (O (.load 64 (.tmp 0)) 64) (.mq none (O (.load 9 (.tmp 6)) 9) (.mq none (O (.lookup 64 (.tmp 1) (.tmp 0) .false) 63) (.op (O (.call ⟨(.value (.func 38)), #[(.tmp 6), (.tmp 5), (.tmp 0)], #[58, 9, 63]⟩) 0) (.mR (.mend (.ret [])))))))))))
def H39 : List (Nat × Nat) := [(0, 99), (1, 99), (2, 99), (3, 99)]
theorem T39_ok : tree H39 Try.f39 3 = some T39 := by kernel_rfl
def T47 : Tree := (.op (O (.nilCheck (.tmp 0)) 0) (.op (O (.fieldAddr 62 (.tmp 0) 2) 0) (.op (O (.load 58 (.tmp 0)) 58) (.op (O (.binOp .eql 58 (.tmp 0) (.const (.pointer Option.none)) 58) 4) (.cond (.tmp 0) (.op (O (.call ⟨(.value (.func 30)), #[], #[]⟩) 58) (.op (O (.call ⟨(.value (.func 30)), #[], #[]⟩) 58) (.op (O (.nilCheck (.tmp 6)) 0) (.op (O (.fieldAddr 62 (.tmp 0) 1) 0) (.op (O (.store 58 (.tmp 0) (.tmp 3)) 0) (.op (O (.nilCheck (.tmp 9)) 0) (.op (O (.fieldAddr 62 (.tmp 0) 2) 0) (.op (O (.store 58 (.tmp 0) (.tmp 5)) 0) (.ret []))))))))) (.ret []))))))
def H47 : List (Nat × Nat) := []
theorem T47_ok : tree H47 Try.f47 1 = some T47 := by kernel_rfl
def T55 : Tree := (.op (O (.assign (.const (.int .i64 0))) 3) (.op (O (.call ⟨(.value (.func 74)), #[(.tmp 1)], #[46]⟩) 4) (.cond (.tmp 0) (.op (O (.assign (.const (.int .i64 26))) 3) (.ret [(.tmp 0)])) (.op (O (.call ⟨(.value (.func 75)), #[(.tmp 3)], #[9]⟩) 4) (.op (O (.unOp .not 4 (.tmp 0)) 4) (.gop (.tmp 0) .false (O (.move (.tmp 6)) 9) (.gop (.tmp 1) .false (O (.call ⟨(.value (.func 75)), #[(.tmp 0)], #[9]⟩) 4) (.gop (.tmp 2) .false (O (.unOp .not 4 (.tmp 0)) 4) (.op (O (.pick (.tmp 3) (.const (.bool .true)) (.tmp 0)) 4) (.cond (.tmp 0) (.op (O (.assign (.const (.int .i64 9))) 3) (.ret [(.tmp 0)])) (.op (O (.nilCheck (.tmp 8)) 0) (.op (O (.fieldAddr 92 (.tmp 0) 2) 0) (.op (O (.load 86 (.tmp 0)) 86) (.op (O (.call ⟨(.value (.func 76)), #[(.tmp 0), (.tmp 12)], #[86, 9]⟩) 110) (.op (O (.binOp .eql 110 (.tmp 0) (.const (.pointer Option.none)) 110) 4) (.cond (.tmp 0) (.op (O (.assign (.const (.int .i64 7))) 3) (.ret [(.tmp 0)])) (.op (O (.build 114 #[(0, (.const (.int .i64 4))), (1, (.tmp 14)), (2, (.tmp 15))]) 114) (.op (O (.call ⟨(.value (.func 79)), #[(.tmp 14), (.tmp 0)], #[46, 114]⟩) 3) (.ret [(.tmp 0)])))))))))))))))))))
def H55 : List (Nat × Nat) := []
theorem T55_ok : tree H55 Try.f55 3 = some T55 := by kernel_rfl
def T71 : Tree := (.op (O (.assign (.const (.bool .false))) 4) (.op (O (.call ⟨(.builtin .len), #[(.tmp 1)], #[9]⟩) 3) (.op (O (.call ⟨(.builtin .len), #[(.tmp 3)], #[9]⟩) 3) (.op (O (.binOp .geq 3 (.tmp 1) (.tmp 0) 3) 4) (.gop (.tmp 0) .true (O (.move (.tmp 4)) 9) (.gop (.tmp 1) .true (O (.move (.tmp 6)) 9) (.gop (.tmp 2) .true (O (.call ⟨(.builtin .len), #[(.tmp 0)], #[9]⟩) 3) (.gop (.tmp 3) .true (O (.slice 9 (.tmp 2) none (some (.tmp 0)) none) 9) (.gop (.tmp 4) .true (O (.move (.tmp 9)) 9) (.gop (.tmp 5) .true (O (.binOp .eql 9 (.tmp 1) (.tmp 0) 9) 4) (.op (O (.pick (.tmp 6) (.tmp 0) (.const (.bool .false))) 4) (.ret [(.tmp 0)]))))))))))))
def H71 : List (Nat × Nat) := []
theorem T71_ok : tree H71 Try.f71 2 = some T71 := by kernel_rfl
def T79 : Tree := (.op (O (.box 114 (.tmp 1)) 0) (.op (O (.assign (.const (.int .i64 0))) 3) (.op (O (.nilCheck (.tmp 2)) 0) (.op (O (.fieldAddr 92 (.tmp 0) 3) 0) (.op (O (.load 90 (.tmp 0)) 90) (.op (O (.call ⟨(.builtin .len), #[(.tmp 0)], #[90]⟩) 3) (.op (O (.binOp .geq 3 (.tmp 0) (.const (.int .i64 16384)) 3) 4) (.cond (.tmp 0) (.op (O (.call ⟨(.value (.func 81)), #[(.tmp 7)], #[46]⟩) 0) (.op (O (.call ⟨(.value (.func 80)), #[(.tmp 8)], #[46]⟩) 0) (.op (O (.buildSlice 23 0 #[]) 23) (.op (O (.fieldAddr 114 (.tmp 9) 3) 0) (.op (O (.load 23 (.tmp 0)) 23) (.op (O (.call ⟨(.builtin .append), #[(.tmp 2), (.tmp 0)], #[23, 23]⟩) 23) (.op (O (.fieldAddr 114 (.tmp 12) 3) 0) (.op (O (.store 23 (.tmp 0) (.tmp 1)) 0) (.mix (.mq none (O (.nilCheck (.tmp 15)) 0) (.mq none (O (.fieldAddr 92 (.tmp 0) 2) 0) (.mq none (O (.load 86 (.tmp 0)) 86) (.mq none (O (.load 114 (.tmp 17)) 114) (.op (O (.call ⟨(.value (.func 82)), #[(.tmp 1), (.tmp 0)], #[86, 114]⟩) 0) (.mR (.mend (.mix (.mq none (O (.nilCheck (.tmp 20)) 0) (.mq none (O (.fieldAddr 92 (.tmp 0) 3) 0) (.mq none (O (.load 90 (.tmp 0)) 90) (.mq none (O (.load 114 (.tmp 22)) 114) (.op (O (.buildSlice 90 1 #[(0, (.tmp 0))]) 90) (.mD (.op (O (.call ⟨(.builtin .append), #[(.tmp 2), (.tmp 0)], #[90, 90]⟩) 90) (.mD (.mq none (O (.nilCheck (.tmp 26)) 0) (.mq none (O (.fieldAddr 92 (.tmp 0) 3) 0) (.op (O (.store 90 (.tmp 0) (.tmp 2)) 0) (.mR (.mend (.op (O (.assign (.const (.int .i64 0))) 3) (.ret [(.tmp 0)])))))))))))))))))))))))))))))))) (.op (O (.call ⟨(.value (.func 80)), #[(.tmp 7)], #[46]⟩) 0) (.op (O (.buildSlice 23 0 #[]) 23) (.op (O (.fieldAddr 114 (.tmp 8) 3) 0) (.op (O (.load 23 (.tmp 0)) 23) (.op (O (.call ⟨(.builtin .append), #[(.tmp 2), (.tmp 0)], #[23, 23]⟩) 23) (.op (O (.fieldAddr 114 (.tmp 11) 3) 0) (.op (O (.store 23 (.tmp 0) (.tmp 1)) 0) (.mix (.mq none (O (.nilCheck (.tmp 14)) 0) (.mq none (O (.fieldAddr 92 (.tmp 0) 2) 0) (.mq none (O (.load 86 (.tmp 0)) 86) (.mq none (O (.load 114 (.tmp 16)) 114) (.op (O (.call ⟨(.value (.func 82)), #[(.tmp 1), (.tmp 0)], #[86, 114]⟩) 0) (.mR (.mend (.mix (.mq none (O (.nilCheck (.tmp 19)) 0) (.mq none (O (.fieldAddr 92 (.tmp 0) 3) 0) (.mq none (O (.load 90 (.tmp 0)) 90) (.mq none (O (.load 114 (.tmp 21)) 114) (.op (O (.buildSlice 90 1 #[(0, (.tmp 0))]) 90) (.mD (.op (O (.call ⟨(.builtin .append), #[(.tmp 2), (.tmp 0)], #[90, 90]⟩) 90) (.mD (.mq none (O (.nilCheck (.tmp 25)) 0) (.mq none (O (.fieldAddr 92 (.tmp 0) 3) 0) (.op (O (.store 90 (.tmp 0) (.tmp 2)) 0) (.mR (.mend (.op (O (.assign (.const (.int .i64 0))) 3) (.ret [(.tmp 0)])))))))))))))))))))))))))))))))))))))))
def H79 : List (Nat × Nat) := [(6, 12), (5, 99)]
theorem T79_ok : tree H79 Try.f79 2 = some T79 := by kernel_rfl
end Go.Proofs.Ytckpegkpdepokaa
/-! Ta -/
namespace Go.Proofs.Ytckpegkpdepokaa
open Go Go.Sx
theorem mix : Try.prog.follows .mixedOrders = true := by kernel_rfl
end Go.Proofs.Ytckpegkpdepokaa
/-! Sx5 -/
namespace Go.Sx
open Go
set_option linter.unusedVariables false
set_option linter.unusedSimpArgs false
variable {P : Program} {R : Ending → World → Prop} {env : Env} {b : Base} {S : List SH} {B : JB} {T : Tree} {v : Value} {ty : TypeId}
theorem qs_move {x : Operand} (h : ev env x = v) : QS P (O (.move x) ty) env b S v := qs_run fun w => by subst h; rfl
theorem qs_assign {x : Operand} (h : ev env x = v) : QS P (O (.assign x) ty) env b S v := qs_run fun w => by subst h; rfl
theorem qs_mc : QS P (O (.move (.const v)) ty) env b S v := qs_move rfl
theorem qs_ac : QS P (O (.assign (.const v)) ty) env b S v := qs_assign rfl
theorem qs_mt {i : Nat} (h : env[i]? = some v) : QS P (O (.move (.tmp i)) ty) env b S v := qs_move (by simp [ev, h])
theorem qs_pick {c x y : Operand} {b0 : Bool} {u v : Value} (hc : ev env c = .bool b0) (hx : ev env x = u) (hy : ev env y = v) : QS P (O (.pick c x y) ty) env b S (if b0 then u else v) := qs_run fun w => by
  simp only [O, execOp, hc, hx, hy, asBool, Sem.run_bind, Sem.run_pure, Result.andThen_ok]
theorem qs_or {c x : Operand} {b0 b1 : Bool} (hc : ev env c = .bool b0) (hx : ev env x = gd b0 false (.bool b1)) : QS P (O (.pick c (.const (.bool true)) x) ty) env b S (.bool (b0 || b1)) := by
  have := qs_pick (P := P) (b := b) (S := S) (ty := ty) (y := x) (x := .const (.bool true)) hc rfl hx
  cases b0 <;> simpa [gd, ev] using this
theorem qs_and {c x : Operand} {b0 b1 : Bool} (hc : ev env c = .bool b0) (hx : ev env x = gd b0 true (.bool b1)) : QS P (O (.pick c x (.const (.bool false))) ty) env b S (.bool (b0 && b1)) := by
  have := qs_pick (P := P) (b := b) (S := S) (ty := ty) (x := x) (y := .const (.bool false)) hc hx rfl
  cases b0 <;> simpa [gd, ev] using this
theorem run_int {op : BinOp} {t t' : TypeId} {x y : Operand} {k : IntKind} {m n : Int} (hx : ev env x = .int k m) (hy : ev env y = .int k n) (hop : op ≠ .shl ∧ op ≠ .shr) (w : World) :
    (execOp (ev env) (O (.binOp op t x y t') ty)).run P w = ((match op with
      | .add | .sub | .mul => Op.intArith op k m n
      | .quo | .rem => Op.intDiv op k m n
      | .and | .or | .xor | .andNot => Op.intBits op k m n
      | _ => Op.intCmp op m n : Sem Value).run P w).andThen fun v w => .ok (.value v) w := by
  have hg : (eqGuard op t x y (.int k m) (.int k n)) = pure () := by
    unfold eqGuard
    split <;> rfl
  simp only [O, execOp, hx, hy, hg, Sem.run_bind, Sem.run_pure, Result.andThen_ok]
  obtain ⟨h1, h2⟩ := hop
  cases op <;> first | exact absurd rfl h1 | exact absurd rfl h2 | simp [binOp, Sem.run_bind, Sem.run_pure]
section
variable {t t' : TypeId} {x y : Operand} {k : IntKind} {m n : Int}
theorem qs_add (hx : ev env x = .int k m) (hy : ev env y = .int k n) : QS P (O (.binOp .add t x y t') ty) env b S (.int k (k.wrap (m + n))) := qs_run fun w => by rw [run_int hx hy (by simp) w]; rfl
theorem qs_sub (hx : ev env x = .int k m) (hy : ev env y = .int k n) : QS P (O (.binOp .sub t x y t') ty) env b S (.int k (k.wrap (m - n))) := qs_run fun w => by rw [run_int hx hy (by simp) w]; rfl
theorem qs_quo (hx : ev env x = .int k m) (hy : ev env y = .int k n) (h0 : n ≠ 0) : QS P (O (.binOp .quo t x y t') ty) env b S (.int k (k.wrap (m.tdiv n))) := qs_run fun w => by rw [run_int hx hy (by simp) w]; simp only [Op.intDiv, if_neg h0]; rfl
theorem qs_eql (hx : ev env x = .int k m) (hy : ev env y = .int k n) : QS P (O (.binOp .eql t x y t') ty) env b S (.bool (m == n)) := qs_run fun w => by rw [run_int hx hy (by simp) w]; rfl
theorem qs_neq (hx : ev env x = .int k m) (hy : ev env y = .int k n) : QS P (O (.binOp .neq t x y t') ty) env b S (.bool (m != n)) := qs_run fun w => by rw [run_int hx hy (by simp) w]; rfl
theorem qs_lss (hx : ev env x = .int k m) (hy : ev env y = .int k n) : QS P (O (.binOp .lss t x y t') ty) env b S (.bool (m < n)) := qs_run fun w => by rw [run_int hx hy (by simp) w]; rfl
theorem qs_leq (hx : ev env x = .int k m) (hy : ev env y = .int k n) : QS P (O (.binOp .leq t x y t') ty) env b S (.bool (m ≤ n)) := qs_run fun w => by rw [run_int hx hy (by simp) w]; rfl
theorem qs_gtr (hx : ev env x = .int k m) (hy : ev env y = .int k n) : QS P (O (.binOp .gtr t x y t') ty) env b S (.bool (m > n)) := qs_run fun w => by rw [run_int hx hy (by simp) w]; rfl
theorem qs_geq (hx : ev env x = .int k m) (hy : ev env y = .int k n) : QS P (O (.binOp .geq t x y t') ty) env b S (.bool (m ≥ n)) := qs_run fun w => by rw [run_int hx hy (by simp) w]; rfl
def bw (op : BinOp) (k : IntKind) (m n : Int) : Int :=
  k.wrap (match op with | .and => BitVec.ofInt k.bits m &&& BitVec.ofInt k.bits n | .or => BitVec.ofInt k.bits m ||| BitVec.ofInt k.bits n | .xor => BitVec.ofInt k.bits m ^^^ BitVec.ofInt k.bits n | _ => BitVec.ofInt k.bits m &&& ~~~BitVec.ofInt k.bits n).toNat
theorem qs_add64 (hx : ev env x = .int .i64 m) (hy : ev env y = .int .i64 n) (h : -9223372036854775808 ≤ m + n ∧ m + n ≤ 9223372036854775807) : QS P (O (.binOp .add t x y t') ty) env b S (.int .i64 (m + n)) := by
  have := qs_add (P := P) (b := b) (S := S) (t := t) (t' := t') (ty := ty) hx hy
  rwa [IntWalk.i64_in _ h] at this
theorem qs_sub64 (hx : ev env x = .int .i64 m) (hy : ev env y = .int .i64 n) (h : -9223372036854775808 ≤ m - n ∧ m - n ≤ 9223372036854775807) : QS P (O (.binOp .sub t x y t') ty) env b S (.int .i64 (m - n)) := by
  have := qs_sub (P := P) (b := b) (S := S) (t := t) (t' := t') (ty := ty) hx hy
  rwa [IntWalk.i64_in _ h] at this
theorem qs_quo64 (hx : ev env x = .int .i64 m) (hy : ev env y = .int .i64 n) (h0 : 0 ≤ m) (h1 : 0 < n) (hm : m ≤ 9223372036854775807) : QS P (O (.binOp .quo t x y t') ty) env b S (.int .i64 (m / n)) := by
  have := qs_quo (P := P) (b := b) (S := S) (t := t) (t' := t') (ty := ty) hx hy (by omega)
  rw [Int.tdiv_eq_ediv_of_nonneg h0] at this
  have hb : 0 ≤ m / n := Int.ediv_nonneg h0 (by omega)
  have hc : m / n ≤ m := Int.ediv_le_self n h0
  rwa [IntWalk.i64_in _ ⟨by omega, by omega⟩] at this
theorem qs_not {b0 : Bool} (hx : ev env x = .bool b0) : QS P (O (.unOp .not t x) ty) env b S (.bool (!b0)) := qs_run fun w => by simp only [O, execOp, hx, Op.unary, Sem.run_bind, Sem.run_pure, Result.andThen_ok]
theorem run_underlying_ok {d : TypeDesc} (h : P.underlying t = some d) (w : World) : (underlying t).run P w = .ok d w := by simp only [underlying, program, Sem.run_bind, Sem.run, Result.andThen_ok, h]; rfl
theorem qs_conv {d : TypeDesc} {k' : IntKind} (hs : P.underlying t = some d) (hd : P.underlying t' = some (.int k')) (hx : ev env x = .int k m) : QS P (O (.convert t t' x) ty) env b S (.int k' (k'.wrap m)) := qs_run fun w => by
  simp only [O, execOp, hx, convert, Sem.run_bind, run_underlying_ok hs, run_underlying_ok hd, Result.andThen_ok]
  rfl
end
def bs (l : List UInt8) : ByteArray := ⟨l.toArray⟩
theorem bs_toList (l : List UInt8) : (bs l).toList = l := by rw [ByteArray.toList_eq]; rfl
theorem bs_data (l : List UInt8) : (bs l).data.toList = l := rfl
theorem bs_size (l : List UInt8) : (bs l).size = l.length := rfl
theorem bs_of (s : ByteArray) : s = bs s.data.toList := by cases s; rfl
theorem bs_extract (l : List UInt8) (a z : Nat) : (bs l).extract a z = bs ((l.take z).drop a) := by
  have := bs_of ((bs l).extract a z)
  rw [this]
  congr 1
  rw [ByteArray.data_extract, bs]
  simp [List.drop_take]
theorem bs_inj {l m : List UInt8} (h : bs l = bs m) : l = m := by
  have := congrArg (fun s => s.data.toList) h
  simpa [bs] using this
section
variable {t t' : TypeId} {x y : Operand} {l l' : List UInt8}
theorem run_str {op : BinOp} {s u : ByteArray} (hx : ev env x = .string s) (hy : ev env y = .string u) (w : World) :
    (execOp (ev env) (O (.binOp op t x y t') ty)).run P w = ((Op.stringOp op s u).run P w).andThen fun v w => .ok (.value v) w := by
  have hg : (eqGuard op t x y (.string s) (.string u)) = pure () := by
    unfold eqGuard
    split <;> rfl
  simp only [O, execOp, hx, hy, hg, Sem.run_bind, Sem.run_pure, Result.andThen_ok]
  cases op <;> simp [binOp, Sem.run_bind, Sem.run_pure]
theorem qs_seql (hx : ev env x = .string (bs l)) (hy : ev env y = .string (bs l')) : QS P (O (.binOp .eql t x y t') ty) env b S (.bool (l == l')) := qs_run fun w => by rw [run_str hx hy w]; simp only [Op.stringOp, bs_toList]; rfl
theorem qs_sneq (hx : ev env x = .string (bs l)) (hy : ev env y = .string (bs l')) : QS P (O (.binOp .neq t x y t') ty) env b S (.bool (!(l == l'))) := qs_run fun w => by rw [run_str hx hy w]; simp only [Op.stringOp, bs_toList]; rfl
theorem qs_slss (hx : ev env x = .string (bs l)) (hy : ev env y = .string (bs l')) : QS P (O (.binOp .lss t x y t') ty) env b S (.bool (Op.bytesLess l l')) := qs_run fun w => by rw [run_str hx hy w]; simp only [Op.stringOp, bs_toList]; rfl
theorem run_b1 {bi : Builtin} {t : TypeId} (w : World) : (execOp (ev env) (O (.call ⟨.builtin bi, #[x], #[t]⟩) ty)).run P w = (builtin bi #[t] ty #[match x with | .const _ => true | _ => false] #[ev env x]).run P w := by
  simp [O, execOp, resolve, invoke, Sem.run_bind, Sem.run_pure, Result.andThen_ok]
  cases x <;> rfl
theorem qs_lens (ht : P.underlying t = some .string) (hx : ev env x = .string (bs l)) : QS P (O (.call ⟨.builtin .len, #[x], #[t]⟩) ty) env b S (.int .i64 l.length) := qs_run fun w => by
  rw [run_b1 w, hx]
  simp only [builtin, Builtin.len_, Sem.run_bind, run_underlying_ok ht, Result.andThen_ok, List.getElem?_toArray, List.getElem?_cons_zero]
  rfl
theorem qs_lenl {e : TypeId} {A : Option Addr} {n c : Nat} (ht : P.underlying t = some (.slice e)) (hx : ev env x = .slice A n c) : QS P (O (.call ⟨.builtin .len, #[x], #[t]⟩) ty) env b S (.int .i64 n) := qs_run fun w => by
  rw [run_b1 w, hx]
  simp only [builtin, Builtin.len_, Sem.run_bind, run_underlying_ok ht, Result.andThen_ok, List.getElem?_toArray, List.getElem?_cons_zero]
  rfl
theorem run_bound {k : IntKind} {n y : Nat} {code : BoundsCode} (h : n ≤ y) (w : World) : (Instr.sliceBound (.int k (n : Int)) y code).run P w = .ok n w := by
  have hb : (0 : Int) ≤ (n : Int) ∧ (n : Int) ≤ (y : Int) := by omega
  simp only [Instr.sliceBound, asIntOf, Sem.run_bind, Sem.run_pure, Result.andThen_ok, if_pos hb, Int.toNat_natCast]
def bd (env : Env) (o : Option Operand) (n d : Nat) : Prop := match o with | some x => ∃ k, ev env x = .int k (n : Int) | none => n = d
theorem run_bounds {isS : Bool} {len cap : Nat} {lo hi : Option Operand} {a z : Nat} (hlo : bd env lo a 0) (hhi : bd env hi z len) (h1 : a ≤ z) (h2 : z ≤ cap) (w : World) :
    (Instr.sliceBounds isS len cap (lo.map (ev env)) (hi.map (ev env)) none).run P w = .ok (a, z, cap) w := by
  unfold bd at hlo hhi
  cases lo with
  | none =>
    simp only at hlo
    subst hlo
    cases hi with
    | none =>
      simp only at hhi
      subst hhi
      simp [Instr.sliceBounds, Sem.run_bind, Sem.run_pure]
    | some h =>
      obtain ⟨k, hk⟩ := hhi
      simp [Instr.sliceBounds, hk, run_bound h2, Sem.run_bind, Sem.run_pure]
  | some l =>
    obtain ⟨k0, hk0⟩ := hlo
    cases hi with
    | none =>
      simp only at hhi
      subst hhi
      simp [Instr.sliceBounds, hk0, run_bound h1, Sem.run_bind, Sem.run_pure]
    | some h =>
      obtain ⟨k, hk⟩ := hhi
      simp [Instr.sliceBounds, hk, hk0, run_bound h2, run_bound h1, Sem.run_bind, Sem.run_pure]
theorem qs_cuts {lo hi : Option Operand} {a z : Nat} (ht : P.underlying t = some .string) (hx : ev env x = .string (bs l)) (hlo : bd env lo a 0) (hhi : bd env hi z l.length) (h1 : a ≤ z) (h2 : z ≤ l.length) :
    QS P (O (.slice t x lo hi none) ty) env b S (.string (bs ((l.take z).drop a))) := qs_run fun w => by
  simp only [O, execOp, hx, Instr.sliceAt, Instr.slice, Option.map_none, Option.isSome_none, Bool.false_eq_true, if_false, Sem.run_bind, Sem.run_pure, Result.andThen_ok, run_underlying_ok ht, bs_size]
  rw [run_bounds hlo hhi h1 h2]
  simp only [Result.andThen_ok, Sem.run_pure, bs_extract]
theorem qs_cutl {e : TypeId} {lo hi : Option Operand} {a z n c sz : Nat} {A : Option Addr} (ht : P.underlying t = some (.slice e)) (hz : (P.info? e).map (·.size) = some sz) (hx : ev env x = .slice A n c) (hlo : bd env lo a 0) (hhi : bd env hi z n) (h1 : a ≤ z) (h2 : z ≤ c) :
    QS P (O (.slice t x lo hi none) ty) env b S (.slice (if c = a then A else A.map (·.add (a * sz))) (z - a) (c - a)) := qs_run fun w => by
  have hz' : ∀ w, (sizeOf e).run P w = .ok sz w := fun w => by
    obtain ⟨i, hi, rfl⟩ := Option.map_eq_some_iff.1 hz
    simp only [sizeOf, typeInfo, program, Sem.run_bind, Sem.run, Result.andThen_ok, hi]
    rfl
  simp only [O, execOp, hx, Instr.sliceAt, Instr.slice, Option.map_none, Sem.run_bind, Sem.run_pure, Result.andThen_ok, run_underlying_ok ht]
  rw [run_bounds hlo hhi h1 h2]
  simp only [Result.andThen_ok, Sem.run_pure, hz', Sem.run_bind]
end
theorem run_sizeOf_ok {t : TypeId} {n : Nat} (h : (P.info? t).map (·.size) = some n) (w : World) : (sizeOf t).run P w = .ok n w := by
  obtain ⟨i, hi, rfl⟩ := Option.map_eq_some_iff.1 h
  simp only [sizeOf, typeInfo, program, Sem.run_bind, Sem.run, Result.andThen_ok, hi]
  rfl
def flat : TypeDesc → Bool
  | .struct _ | .array _ _ => false
  | _ => true
theorem run_load_ok {a : Addr} {w : World} (h : w.cell? a = some v) : (load a).run P w = .ok v w := by
  simp only [load, Sem.run, h]
theorem run_loadVar_flat {t : TypeId} {d : TypeDesc} (hu : P.underlying t = some d) (hd : flat d = true) {a : Addr} {w : World} (h : w.cell? a = some v) : (loadVar t a).run P w = .ok v w := by
  have : (isAgg t).run P w = .ok false w := by
    simp only [isAgg, Sem.run_bind, run_underlying_ok hu, Result.andThen_ok]
    cases d <;> first | rfl | cases hd
  simp only [loadVar, Sem.run_bind, this, Result.andThen_ok, Bool.false_eq_true, if_false, run_load_ok h]
theorem cell_of {w : World} {g i : Nat} {l : List Value} {e : TypeId} {fz : Nat × Nat} (h : w.heap[g]? = some (.cells l.toArray e fz)) : w.cell? ⟨g, i, none⟩ = l[i]? := by
  simp [World.cell?, h]
theorem Sig.at_ {b : Base} {w : World} (hw : Sig b S w) {k g : Nat} {o : Obj} (hk : S[k]? = some [(g, o)]) : w.heap[g]? = some o := hw.own (g, o) (mem_flatten_of hk (by simp))
theorem qs_load {t : TypeId} {d : TypeDesc} {x : Operand} {g i : Nat} {l : List Value} {e : TypeId} {fz : Nat × Nat} (k : Nat) (hu : P.underlying t = some d) (hd : flat d = true) (hx : ev env x = .pointer (some ⟨g, i, none⟩))
    (hk : S[k]? = some [(g, .cells l.toArray e fz)]) (hi : l[i]? = some v) : QS P (O (.load t x) ty) env b S v := qs_val fun w hw => by
  have h := cell_of (i := i) (hw.at_ hk)
  rw [hi] at h
  simp only [O, execOp, hx, Instr.loadAt, Instr.sureAddr, Sem.run_bind, Sem.run_pure, Result.andThen_ok, run_loadVar_flat hu hd h]
theorem Sig.ro {b : Base} {w : World} (hw : Sig b S w) {a : Addr} (h : b.w0.cell? a = some v) (hD : a.block ∉ b.D) : w.cell? a = some v := by
  have hlt : a.block < b.w0.heap.size := by
    unfold World.cell? at h
    split at h
    · rename_i h1; exact lt_of_get h1
    · cases h
  unfold World.cell? at *
  rw [hw.frame _ hlt hD]
  exact h
theorem run_loadCellsFrom {w : World} {a : Addr} : ∀ (n i : Nat) (acc : Array Value) (l : List Value), l.length = n → (∀ j, j < n → w.cell? (a.add (i + j)) = l[j]?) → (loadCellsFrom a i n acc).run P w = .ok (acc ++ l.toArray) w
  | 0, i, acc, l, hl, _ => by
    have : l = [] := List.eq_nil_of_length_eq_zero hl
    subst this
    simp [loadCellsFrom, Sem.run_pure]
  | n + 1, i, acc, l, hl, h => by
    match l, hl with
    | v :: l, hl =>
      have h0 := h 0 (by omega)
      simp only [Nat.add_zero, List.getElem?_cons_zero] at h0
      have ih := run_loadCellsFrom n (i + 1) (acc.push v) l (by simpa using hl) (fun j hj => by
        have := h (j + 1) (by omega)
        rw [show i + (j + 1) = i + 1 + j by omega] at this
        simpa using this)
      simp only [loadCellsFrom, Sem.run_bind, run_load_ok h0, Result.andThen_ok, ih]
      simp
theorem run_loadCells {w : World} {a : Addr} {n : Nat} {l : List Value} (hl : l.length = n) (h : ∀ j, j < n → w.cell? (a.add j) = l[j]?) : (loadCells a n).run P w = .ok l.toArray w := by
  have := run_loadCellsFrom (P := P) (w := w) (a := a) n 0 #[] l hl (by simpa using h)
  simpa [loadCells] using this
theorem add_off (g off j : Nat) : (⟨g, off, none⟩ : Addr).add j = ⟨g, off + j, none⟩ := by
  unfold Addr.add
  split
  · rename_i h; subst h; simp
  · rfl
theorem run_loadVar_agg {t : TypeId} {d : TypeDesc} {n : Nat} (hu : P.underlying t = some d) (hd : flat d = false) (hz : (P.info? t).map (·.size) = some n) {g off : Nat} {w : World} {l : List Value} (hl : l.length = n)
    (h : ∀ j, j < n → w.cell? ⟨g, off + j, none⟩ = l[j]?) : (loadVar t ⟨g, off, none⟩).run P w = .ok (.agg l.toArray) w := by
  have : (isAgg t).run P w = .ok true w := by
    simp only [isAgg, Sem.run_bind, run_underlying_ok hu, Result.andThen_ok]
    cases d <;> first | rfl | cases hd
  have h2 := run_loadCells (P := P) (w := w) (a := ⟨g, off, none⟩) hl (fun j hj => by rw [add_off]; exact h j hj)
  simp only [loadVar, Sem.run_bind, this, Result.andThen_ok, if_true, run_sizeOf_ok hz, h2, Sem.run_pure]
theorem qs_loada {t : TypeId} {d : TypeDesc} {x : Operand} {g i n : Nat} {l : List Value} {e : TypeId} {fz : Nat × Nat} (k : Nat) (hu : P.underlying t = some d) (hd : flat d = false) (hz : (P.info? t).map (·.size) = some n) (hx : ev env x = .pointer (some ⟨g, i, none⟩))
    (hk : S[k]? = some [(g, .cells l.toArray e fz)]) (hi : i + n ≤ l.length) : QS P (O (.load t x) ty) env b S (.agg ((l.drop i).take n).toArray) := qs_val fun w hw => by
  have h := fun j => cell_of (i := j) (hw.at_ hk)
  have := run_loadVar_agg (P := P) (w := w) (g := g) (off := i) (l := (l.drop i).take n) hu hd hz (by simp; omega) (fun j hj => by
    rw [h (i + j), List.getElem?_take_of_lt hj, List.getElem?_drop])
  simp only [O, execOp, hx, Instr.loadAt, Instr.sureAddr, Sem.run_bind, Sem.run_pure, Result.andThen_ok, this]
theorem qs_loadw {t : TypeId} {d : TypeDesc} {x : Operand} {g n : Nat} {l : List Value} {e : TypeId} {fz : Nat × Nat} (k : Nat) (hu : P.underlying t = some d) (hd : flat d = false) (hz : (P.info? t).map (·.size) = some n) (hx : ev env x = .pointer (some ⟨g, 0, none⟩))
    (hk : S[k]? = some [(g, .cells l.toArray e fz)]) (hi : l.length = n) : QS P (O (.load t x) ty) env b S (.agg l.toArray) := by
  have := qs_loada (P := P) (b := b) (ty := ty) k hu hd hz hx hk (by omega)
  rwa [List.drop_zero, List.take_of_length_le (by omega)] at this
def oneV : Value → Bool
  | .agg _ | .tuple _ => false
  | _ => true
theorem cells_of_one {v : Value} (h : oneV v = true) : v.cells = #[v] := by cases v <;> first | rfl | cases h
theorem run_store_ok {w : World} {g i : Nat} {l : List Value} {e : TypeId} {fz : Nat × Nat} (h : w.heap[g]? = some (.cells l.toArray e fz)) (hi : i < l.length) (hf : ¬ (fz.1 ≤ i ∧ i < fz.2)) (hv : oneV v = true) :
    (store ⟨g, i, none⟩ v).run P w = .ok () (w.setCell ⟨g, i, none⟩ v) := by
  have hc := cell_of (i := i) h
  rw [List.getElem?_eq_getElem hi] at hc
  have hfr : w.frozen? ⟨g, i, none⟩ = false := by
    unfold World.frozen?
    simp only [h]
    simpa using hf
  have hv' : v.oneCell' = true := by cases v <;> first | rfl | cases hv
  rw [run_store P w _ v _ hv']
  simp only [hc, hfr, Bool.false_eq_true, if_false]
theorem heap_setCell {w : World} {g i : Nat} {l : List Value} {e : TypeId} {fz : Nat × Nat} (h : w.heap[g]? = some (.cells l.toArray e fz)) (v : Value) :
    (w.setCell ⟨g, i, none⟩ v).heap[g]? = some (.cells (l.set i v).toArray e fz) ∧ (∀ j, j ≠ g → (w.setCell ⟨g, i, none⟩ v).heap[j]? = w.heap[j]?) ∧ (w.setCell ⟨g, i, none⟩ v).heap.size = w.heap.size := by
  refine ⟨?_, fun j hj => ?_, ?_⟩
  · simp [World.setCell, Array.getElem?_modify, h]
  · simp only [World.setCell, Array.getElem?_modify]
    rw [if_neg (fun e => hj e.symm)]
  · simp [World.setCell]
theorem run_storeCells_ok {g : Nat} {e : TypeId} {fz : Nat × Nat} : ∀ (vs : List Value) (off i : Nat) (l : List Value) (w : World), w.heap[g]? = some (.cells l.toArray e fz) → off + i + vs.length ≤ l.length → (∀ j, off + i ≤ j → j < off + i + vs.length → ¬ (fz.1 ≤ j ∧ j < fz.2)) → (∀ v ∈ vs, oneV v = true) →
    ∃ w', (storeCells ⟨g, off, none⟩ vs i).run P w = .ok () w' ∧ w'.os = w.os ∧ w'.tape = w.tape ∧ w'.output = w.output ∧ w'.heap.size = w.heap.size ∧ w'.heap[g]? = some (.cells (l.take (off + i) ++ vs ++ l.drop (off + i + vs.length)).toArray e fz) ∧ ∀ j, j ≠ g → w'.heap[j]? = w.heap[j]?
  | [], off, i, l, w, h, hl, _, _ => ⟨w, rfl, rfl, rfl, rfl, rfl, by simpa using h, fun _ _ => rfl⟩
  | v :: vs, off, i, l, w, h, hl, hf, hv => by
    simp only [List.length_cons] at hl hf
    have h1 := run_store_ok (P := P) h (i := off + i) (by omega) (hf (off + i) (by omega) (by omega)) (hv v (by simp))
    obtain ⟨g1, g2, g3⟩ := heap_setCell (i := off + i) h v
    obtain ⟨w', e1, e2, e3, e4, e5, e6, e7⟩ := run_storeCells_ok vs off (i + 1) (l.set (off + i) v) _ g1 (by simp; omega) (fun j h1 h2 => hf j (by omega) (by omega)) (fun u hu => hv u (by simp [hu]))
    refine ⟨w', ?_, e2.trans rfl, e3.trans rfl, e4.trans rfl, e5.trans g3, ?_, fun j hj => (e7 j hj).trans (g2 j hj)⟩
    · simp only [storeCells, add_off, Sem.run_bind, h1, Result.andThen_ok, e1]
    · rw [e6]
      have hlt : off + i < l.length := by omega
      have : (l.set (off + i) v).take (off + (i + 1)) ++ vs ++ (l.set (off + i) v).drop (off + (i + 1) + vs.length) = l.take (off + i) ++ v :: vs ++ l.drop (off + i + (vs.length + 1)) := by
        rw [show off + (i + 1) = off + i + 1 by omega, List.take_succ_eq_append_getElem (by simpa using hlt), List.take_set_of_le (Nat.le_refl _), List.getElem_set_self, List.drop_set_of_lt (by omega)]
        simp [show off + i + 1 + vs.length = off + i + (vs.length + 1) by omega]
      rw [this]
      rfl
theorem j_store {t : TypeId} {x y : Operand} {g i : Nat} {l : List Value} {e : TypeId} {fz : Nat × Nat} (k : Nat) (hz : (P.info? t).map (·.size) = some 1) (hx : ev env x = .pointer (some ⟨g, i, none⟩)) (hy : ev env y = v) (hv : oneV v = true)
    (hk : S[k]? = some [(g, .cells l.toArray e fz)]) (hi : i < l.length) (hf : ¬ (fz.1 ≤ i ∧ i < fz.2)) (h : J P R T (undef :: env) (S.set k [(g, .cells (l.set i v).toArray e fz)]) b B) : J P R (.op (O (.store t x y) ty) T) env S b B := fun w hw => by
  have hg := hw.at_ hk
  have h1 := run_store_ok (P := P) hg hi hf hv
  obtain ⟨g1, g2, g3⟩ := heap_setCell (i := i) hg v
  have hc : v.cells = #[v] := cells_of_one hv
  have hrun : (execOp (ev env) (O (.store t x y) ty)).run P w = .ok .skip (w.setCell ⟨g, i, none⟩ v) := by
    simp only [O, execOp, hx, hy, Instr.storeAt, Instr.sureAddr, storeVar, hc, Sem.run_bind, Sem.run_pure, Result.andThen_ok, run_sizeOf_ok hz, List.size_toArray, List.length_cons, List.length_nil, Nat.zero_add, ne_eq, not_true_eq_false, if_false, storeCells, add_off, Nat.add_zero, h1]
  show opW _ _ _ _ _ _
  unfold opW
  rw [hrun]
  exact h _ (hw.set hk rfl rfl rfl g3 g1 g2)
def zeroL (P : Program) (t : TypeId) : Option (List Value) := ((P.info? t).bind (·.zero)).map (·.cells.toList)
theorem run_zero_ok {t : TypeId} {l : List Value} (h : zeroL P t = some l) : ∃ z : Value, z.cells = l.toArray ∧ ∀ w, (zeroValue t).run P w = .ok z w := by
  unfold zeroL at h
  cases hi : P.info? t with
  | none => simp [hi] at h
  | some i =>
    cases hz : i.zero with
    | none => simp [hi, hz] at h
    | some z =>
      simp [hi, hz] at h
      subst h
      refine ⟨z, by simp, fun w => ?_⟩
      simp only [zeroValue, typeInfo, program, Sem.run_bind, Sem.run, Result.andThen_ok, hi, hz]
      simp only [Sem.run_bind, Sem.run_pure, Result.andThen_ok, hz]
theorem j_box {t : TypeId} {x : Operand} {l : List Value} (hx : (ev env x).cells = l.toArray) (h : ∀ g, b.w0.heap.size ≤ g → g ∉ dom S.flatten → J P R T (.pointer (some ⟨g, 0, none⟩) :: env) ([(g, .cells l.toArray t (0, 0))] :: S) b B) : J P R (.op (O (.box t x) ty) T) env S b B := fun w hw => by
  have e : (execOp (ev env) (O (.box t x) ty)).run P w = .ok (.value (.pointer (some ⟨w.heap.size, 0, none⟩))) { w with heap := w.heap.push (.cells l.toArray t (0, 0)) } := by
    simp only [O, execOp, Instr.box, Sem.run_bind, Result.andThen_ok, newVar, newRow, newObj, hx, Sem.run, Sem.run_pure]
  show opW _ _ _ _ _ _
  unfold opW
  rw [e]
  obtain ⟨h1, h2, h3⟩ := hw.new (o := .cells l.toArray t (0, 0)) (w' := { w with heap := w.heap.push (.cells l.toArray t (0, 0)) }) rfl rfl rfl rfl
  exact h _ h3 h2 _ h1
theorem qs_nil {x : Operand} {a : Addr} (hx : ev env x = .pointer (some a)) : QS P (O (.nilCheck x) ty) env b S (.pointer (some a)) := qs_run fun w => by
  simp only [O, execOp, hx, Sem.run_pure]
theorem qs_ixl {t e : TypeId} {x y : Operand} {n c sz : Nat} {a : Addr} {k : IntKind} {m : Int} (ht : P.underlying t = some (.slice e)) (hz : (P.info? e).map (·.size) = some sz) (hx : ev env x = .slice (some a) n c) (hy : ev env y = .int k m) (h0 : 0 ≤ m) (h1 : m < n) :
    QS P (O (.indexAddr t x y) ty) env b S (.pointer (some (a.add (m.toNat * sz)))) := qs_run fun w => by
  simp only [O, execOp, hx, hy, Instr.indexAt, asIntOf, Instr.sureAddr, Sem.run_bind, Sem.run_pure, Result.andThen_ok, run_underlying_ok ht, run_sizeOf_ok hz]
  rw [if_pos ⟨h0, h1⟩]
  simp only [Sem.run_bind, Sem.run_pure, Result.andThen_ok, run_sizeOf_ok hz]
theorem qs_ext {x : Operand} {i : Nat} {vs : List Value} (hx : ev env x = .tuple vs.toArray) (hi : vs[i]? = some v) : QS P (O (.extract x i) ty) env b S v := qs_run fun w => by
  have : vs.toArray[i]? = some v := by simpa using hi
  simp only [O, execOp, hx, Instr.extract, this, Sem.run_bind, Sem.run_pure, Result.andThen_ok]
end Go.Sx
/-! Sx6 -/
namespace Go.Sx
open Go
set_option linter.unusedVariables false
set_option linter.unusedSimpArgs false
variable {P : Program} {R : Ending → World → Prop} {env : Env} {b : Base} {S : List SH} {B : JB} {T : Tree} {v : Value} {ty : TypeId}
def ints (l : List UInt8) : List Value := l.map fun c => .int .u8 (c.toNat : Int)
theorem ints_length (l : List UInt8) : (ints l).length = l.length := by simp [ints]
theorem ints_get (l : List UInt8) (i : Nat) : (ints l)[i]? = l[i]?.map fun c => .int .u8 (c.toNat : Int) := by simp [ints]
theorem ints_append (l m : List UInt8) : ints (l ++ m) = ints l ++ ints m := by simp [ints]
theorem ints_get_lt {l : List UInt8} {i : Nat} (h : i < l.length) : (ints l)[i]? = some (.int .u8 ((l.getD i 0).toNat : Int)) := by
  rw [ints_get]; simp [List.getElem?_eq_getElem h, List.getD_eq_getElem?_getD]
theorem ints_one {l : List UInt8} : ∀ u ∈ ints l, oneV u = true := by
  intro u hu
  obtain ⟨c, _, rfl⟩ := List.mem_map.1 hu
  rfl
def Rd (b : Base) (S : List SH) (a : Addr) (vs : List Value) : Prop := ∀ w, Sig b S w → ∀ j u, vs[j]? = some u → w.cell? (a.add j) = some u
theorem rd_own {g off n : Nat} {l vs : List Value} {e : TypeId} {fz : Nat × Nat} (k : Nat) (hk : S[k]? = some [(g, .cells l.toArray e fz)]) (h : (l.drop off).take n = vs) : Rd b S ⟨g, off, none⟩ vs := fun w hw j u hu => by
  subst h
  rw [add_off, cell_of (hw.at_ hk)]
  rw [List.getElem?_take] at hu
  split at hu
  · rwa [List.getElem?_drop] at hu
  · cases hu
theorem rd_ro {a : Addr} {vs : List Value} (h : ∀ j u, vs[j]? = some u → b.w0.cell? (a.add j) = some u) (hD : a.block ∉ b.D) : Rd b S a vs := fun w hw j u hu => by
  refine hw.ro (h j u hu) ?_
  have : (a.add j).block = a.block := by unfold Addr.add; split <;> rfl
  rwa [this]
theorem qs_loadR {t : TypeId} {d : TypeDesc} {x : Operand} {a : Addr} {vs : List Value} {i : Nat} (hr : Rd b S a vs) (hu : P.underlying t = some d) (hd : flat d = true) (hx : ev env x = .pointer (some (a.add i))) (hi : vs[i]? = some v) : QS P (O (.load t x) ty) env b S v := qs_val fun w hw => by
  have h := hr w hw i v hi
  simp only [O, execOp, hx, Instr.loadAt, Instr.sureAddr, Sem.run_bind, Sem.run_pure, Result.andThen_ok, run_loadVar_flat hu hd h]
def Own (e : TypeId) (sz : Nat) (xs : List Value) (v : Value) (c : SH) : Prop :=
  (v = .slice none 0 0 ∧ xs = [] ∧ c = []) ∨ ∃ g n cap rest fz, v = .slice (some ⟨g, 0, none⟩) n cap ∧ c = [(g, .cells (xs ++ rest).toArray e fz)] ∧ xs.length = n * sz ∧ (xs ++ rest).length = cap * sz ∧ n ≤ cap ∧ ∀ j, j < (xs ++ rest).length → ¬ (fz.1 ≤ j ∧ j < fz.2)
theorem own_nil {e : TypeId} {sz : Nat} : Own e sz [] (.slice none 0 0) [] := .inl ⟨rfl, rfl, rfl⟩
def Src (b : Base) (S : List SH) (sz : Nat) (y : Value) (m : Nat) (news : List Value) : Prop :=
  (∃ a c, y = .slice (some a) m c ∧ Rd b S a news ∧ news.length = m * sz) ∨ (∃ c, y = .slice none m c ∧ m = 0 ∧ news = []) ∨ ∃ l, y = .string (bs l) ∧ sz = 1 ∧ news = ints l ∧ m = l.length
theorem src_sl {a : Addr} {c m sz : Nat} {news : List Value} (h : Rd b S a news) (hl : news.length = m * sz) : Src b S sz (.slice (some a) m c) m news := .inl ⟨a, c, rfl, h, hl⟩
theorem src_len {sz m : Nat} {y : Value} {news : List Value} (h : Src b S sz y m news) : news.length = m * sz := by
  rcases h with ⟨a, c, rfl, _, h⟩ | ⟨c, rfl, rfl, rfl⟩ | ⟨l, rfl, rfl, rfl, rfl⟩
  · exact h
  · simp
  · simp [ints_length]
theorem Sig.tomb {b : Base} {S : List SH} {w : World} (h : Sig b S w) {k : Nat} {c : SH} (hk : S[k]? = some c) : Sig b (S.set k []) w := by
  obtain ⟨r, h1, h2⟩ := flatten_set hk []
  refine ⟨h.os, h.tape, h.output, h.size, fun p hp => h.own p (h1.mem_iff.2 (List.mem_append_right _ (h2.mem_iff.1 hp))), ?_, fun j hj => ?_, h.frame⟩
  · have := (h1.map Prod.fst).nodup_iff.1 h.nodup
    rw [List.map_append, List.nodup_append] at this
    exact (h2.map Prod.fst).nodup_iff.2 this.2.1
  · refine h.dom_ j ((h1.map Prod.fst).mem_iff.2 ?_)
    rw [List.map_append]
    exact List.mem_append_right _ ((h2.map Prod.fst).mem_iff.1 hj)
theorem Sig.swap {b : Base} {S : List SH} {w w' : World} (h : Sig b S w) {k : Nat} {c : SH} (hk : S[k]? = some c) {o : Obj} (hos : w'.os = w.os) (ht : w'.tape = w.tape) (hou : w'.output = w.output) (hh : w'.heap = w.heap.push o) : Sig b (S.set k [(w.heap.size, o)]) w' := by
  have h1 := ((h.tomb hk).new hos ht hou hh).1
  obtain ⟨r, p1, p2⟩ := flatten_set hk [(w.heap.size, o)]
  obtain ⟨r', q1, q2⟩ := flatten_set (S := S.set k []) (k := k) (c := []) (by
    have := (List.getElem?_eq_some_iff.1 hk).1
    simp [this]) [(w.heap.size, o)]
  simp only [List.set_set, List.nil_append] at q1 q2
  refine h1.perm ?_
  simp only [List.flatten_cons]
  exact (q1.append_left _).trans q2.symm
theorem run_lenOf {sz m : Nat} {y : Value} {news : List Value} (h : Src b S sz y m news) (w : World) : (Builtin.lenOf y).run P w = .ok m w := by
  rcases h with ⟨a, c, rfl, _, h⟩ | ⟨c, rfl, rfl, rfl⟩ | ⟨l, rfl, rfl, rfl, rfl⟩ <;> simp only [Builtin.lenOf, Sem.run_pure, bs_size]
theorem run_firsts {sz m : Nat} {y : Value} {news : List Value} (h : Src b S sz y m news) {w : World} (hw : Sig b S w) : (Builtin.firstCells sz m y).run P w = .ok news.toArray w := by
  rcases h with ⟨a, c, rfl, hr, hl⟩ | ⟨c, rfl, rfl, rfl⟩ | ⟨l, rfl, rfl, rfl, rfl⟩
  · exact run_firstCells_some w sz m a m c news hl (hr w hw)
  · simp only [Builtin.firstCells, Sem.run_pure]
  · simp only [Builtin.firstCells, Sem.run_pure, bs_extract]
    congr 1
    apply Array.ext'
    simp [ints, bs]
theorem j_append {t t' e : TypeId} {x y : Operand} {sz by_ m : Nat} {xs news : List Value} {c : SH} {d : TypeDesc} (k : Nat) (ht : P.underlying t = some (.slice e)) (ht' : P.underlying t' = some d) (hd : d = .string ∨ ∃ e', d = .slice e') (hi : (P.info? e).map (fun i => (i.size, i.bytes)) = some (sz, by_)) {z : List Value} (hz : zeroL P e = some z) (hzl : z.length = sz)
    (hx : Own e sz xs (ev env x) c) (hk : S[k]? = some c) (hy : Src b S sz (ev env y) m news) (h1 : ∀ u ∈ news, oneV u = true) (hb : (xs.length + news.length) * (by_ + 1) ≤ 140737488355328 ∧ 0 < sz)
    (h : ∀ v' c', Own e sz (xs ++ news) v' c' → J P R T (v' :: env) (S.set k c') b B) : J P R (.op (O (.call ⟨.builtin .append, #[x, y], #[t, t']⟩) ty) T) env S b B := fun w hw => by
  rcases hd with rfl | ⟨e', rfl⟩
  all_goals (
    obtain ⟨i, hi', hsb⟩ := Option.map_eq_some_iff.1 hi
    obtain ⟨rfl, rfl⟩ : i.size = sz ∧ i.bytes = by_ := by simpa using hsb
    obtain ⟨zv, hzv, hrunz⟩ := run_zero_ok hz
    obtain ⟨hb, hsz⟩ := hb
    have hml := src_len hy
    have hsize : ∀ w, (sizeOf e).run P w = .ok i.size w := run_sizeOf_ok (by rw [hi']; rfl)
    have hinfo : ∀ w, (typeInfo e).run P w = .ok i w := fun w => by simp only [typeInfo, program, Sem.run_bind, Sem.run, Result.andThen_ok, hi']; simp only [Sem.run_pure]
    have hgo : ∀ v' w' c', Own e i.size (xs ++ news) v' c' → Sig b (S.set k c') w' → (Builtin.append_ #[t, t'] ty #[ev env x, ev env y]).run P w = .ok v' w' → opW P (O (.call ⟨.builtin .append, #[x, y], #[t, t']⟩) ty) env w R fun v w' => W P R T (v :: env) w' (B.map (lift b)) := fun v' w' c' ho hs hr => by
      unfold opW
      have e1 : (execOp (ev env) (O (.call ⟨.builtin .append, #[x, y], #[t, t']⟩) ty)).run P w = .ok (.value v') w' := by
        simp [O, execOp, resolve, invoke, builtin, Sem.run_bind, Sem.run_pure, Result.andThen_ok, hr]
      rw [e1]
      exact h v' c' ho w' hs
    show opW _ _ _ _ _ _
    have hmle : m ≤ news.length := by rw [hml]; exact Nat.le_mul_of_pos_right _ hsz
    have hsum : xs.length + news.length ≤ 140737488355328 := Nat.le_trans (Nat.le_mul_of_pos_right _ (by omega)) hb
    -- a new row
    have grow : ∀ (n cap : Nat) (A : Option Addr), ev env x = .slice A n cap → cap < n + m → xs.length = n * i.size → (∀ w, Sig b S w → (Builtin.firstCells i.size n (.slice A n cap)).run P w = .ok xs.toArray w) →
        opW P (O (.call ⟨.builtin .append, #[x, y], #[t, t']⟩) ty) env w R fun v w' => W P R T (v :: env) w' (B.map (lift b)) := by
      intro n cap A hxe hc hxl hfirst
      have hnle : n ≤ xs.length := by rw [hxl]; exact Nat.le_mul_of_pos_right _ hsz
      have h48 : ¬ (Builtin.nextslicecap (n + m) cap * i.bytes > 2 ^ 48) := by
        have := growslice_fits (need := n + m) (old := cap) (bytes := i.bytes) hc (by
          refine Nat.le_trans (Nat.mul_le_mul_right _ (by omega : n + m ≤ xs.length + news.length)) (Nat.le_trans (Nat.mul_le_mul_left _ (Nat.le_succ _)) hb))
        omega
      have h63 : ¬ ((((n + m : Nat) : Int) > IntKind.i64.max) ∧ (False ∨ i.bytes = 0)) := by
        have : IntKind.i64.max = 9223372036854775807 := rfl
        rw [this]; omega
      have hge := grownCap_ge w (n + m) cap e
      refine hgo (.slice (some ⟨w.heap.size, 0, none⟩) (n + m) (grownCap w (n + m) cap e)) (w.drew.alloc (.cells ((xs ++ news) ++ (Builtin.zeroCells zv.cells (grownCap w (n + m) cap e - (n + m))).toList).toArray e)) _ (.inr ⟨w.heap.size, n + m, grownCap w (n + m) cap e, (Builtin.zeroCells zv.cells (grownCap w (n + m) cap e - (n + m))).toList, (0, 0), rfl, rfl, ?_, ?_, hge, fun _ _ h => by omega⟩) ?_ ?_
      · rw [List.length_append, hxl, hml, Nat.add_mul]
      · rw [List.length_append, List.length_append, hxl, hml, Array.length_toList, size_zeroCells, hzv, List.size_toArray, hzl, ← Nat.add_mul, ← Nat.add_mul]
        congr 1
        omega
      · exact hw.swap hk rfl rfl rfl rfl
      · have f1 := hfirst w.drew hw.drew
        have f2 := run_firsts (P := P) hy (w := w.drew) hw.drew
        rw [hxe]
        have hroom : ¬ (n + m ≤ cap) := by omega
        have e1 : ∀ (b : Bool) (w : World), (if b = true then (mark Mark.noRoom : Sem PUnit) else pure ()).run P w = .ok ⟨⟩ w := fun b w => by cases b <;> rfl
        have e2 : ∀ (n : Nat) (w : World), (askRoom n).run P w = .ok () w := fun n w => by unfold askRoom; split <;> rfl
        simp only [Builtin.append_, List.getElem?_toArray, List.getElem?_cons_zero, List.getElem?_cons_succ, Sem.run_bind, run_underlying_ok ht, run_underlying_ok ht', Result.andThen_ok, hsize, Sem.run_pure, run_lenOf hy, hinfo]
        simp only [Bool.false_eq_true, if_false, run_lenOf hy, Result.andThen_ok, if_neg hroom, hinfo, Sem.run_bind, Bool.not_false, if_true, if_neg h48, if_neg h63]
        simp only [choose, Sem.run, Question.forced, Bool.false_eq_true, if_false, Result.andThen_ok, Sem.run_bind, e2]
        show ((Builtin.firstCells i.size n (Value.slice A n cap)).run P w.drew).andThen _ = _
        rw [f1]
        simp only [Result.andThen_ok, Sem.run_bind, f2, hrunz, newRow, Sem.run_pure]
        simp only [newObj, Sem.run, Result.andThen_ok]
        simp only [grownCap, Question.cut, Array.toList_append, List.append_assoc]
        congr 1
        simp only [World.alloc, World.drew]
        congr 2
        congr 1
        apply Array.ext'
        simp
    rcases hx with ⟨hxe, rfl, rfl⟩ | ⟨g, n, cap, rest, fz, hxe, rfl, hxl, hcl, hnc, hfz⟩
    · by_cases hm : m = 0
      · subst hm
        have hn : news = [] := List.eq_nil_of_length_eq_zero (by simpa using hml)
        subst hn
        have hs : S.set k [] = S := by
          obtain ⟨hlt, he⟩ := List.getElem?_eq_some_iff.1 hk
          have := List.set_getElem_self hlt
          rwa [he] at this
        refine hgo (.slice none 0 0) w [] own_nil (by rw [hs]; exact hw) ?_
        rw [hxe]
        simp only [Builtin.append_, List.getElem?_toArray, List.getElem?_cons_zero, List.getElem?_cons_succ, Sem.run_bind, run_underlying_ok ht, run_underlying_ok ht', Result.andThen_ok, hsize, Sem.run_pure]
        simp only [Bool.false_eq_true, if_false, run_lenOf hy, Result.andThen_ok, Nat.add_zero, Nat.le_refl, if_true, Bool.not_false, run_firsts (P := P) hy hw, Sem.run_bind, Sem.run_pure]
      · exact grow 0 0 none hxe (by omega) (by simp) (fun w _ => by simp only [Builtin.firstCells, Sem.run_pure])
    · by_cases hroom : n + m ≤ cap
      · have hgb := hw.at_ hk
        have hfit : n * i.size + 0 + news.length ≤ (xs ++ rest).length := by
          rw [hcl, hml, Nat.add_zero, ← Nat.add_mul]
          exact Nat.mul_le_mul_right _ hroom
        obtain ⟨w', e1, e2, e3, e4, e5, e6, e7⟩ := run_storeCells_ok (P := P) news (n * i.size) 0 (xs ++ rest) w hgb hfit (fun j _ hj => hfz j (by omega)) h1
        have hE : (xs ++ rest).take (n * i.size + 0) ++ news ++ (xs ++ rest).drop (n * i.size + 0 + news.length) = (xs ++ news) ++ rest.drop news.length := by
          rw [Nat.add_zero, ← hxl, List.take_left', List.drop_append, List.drop_of_length_le (by omega)]
          · simp
          · rfl
        rw [hE] at e6
        refine hgo (.slice (some ⟨g, 0, none⟩) (n + m) cap) w' [(g, .cells ((xs ++ news) ++ rest.drop news.length).toArray e fz)] (.inr ⟨g, n + m, cap, rest.drop news.length, fz, rfl, rfl, ?_, ?_, hroom, fun j hj => hfz j ?_⟩) (hw.set hk e2 e3 e4 e5 e6 e7) ?_
        · rw [List.length_append, hxl, hml, Nat.add_mul]
        · rw [← hcl]
          simp only [List.length_append, List.length_drop] at hfit hcl ⊢
          omega
        · simp only [List.length_append, List.length_drop] at hfit hj ⊢
          omega
        · rw [hxe]
          simp only [Builtin.append_, List.getElem?_toArray, List.getElem?_cons_zero, List.getElem?_cons_succ, Sem.run_bind, run_underlying_ok ht, run_underlying_ok ht', Result.andThen_ok, hsize, Sem.run_pure]
          simp only [Bool.false_eq_true, if_false, run_lenOf hy, Result.andThen_ok, if_pos hroom, Bool.not_false, if_true, run_firsts (P := P) hy hw, add_off, Nat.zero_add, Sem.run_bind]
          have e1' : (storeCells ⟨g, n * i.size, none⟩ news.toArray.toList).run P w = .ok () w' := e1
          rw [e1']
          rfl
      · refine grow n cap (some ⟨g, 0, none⟩) hxe (by omega) hxl (fun w hw => ?_)
        exact run_firstCells_some w i.size n _ n cap xs hxl (fun j u hu => by
          rw [add_off, Nat.zero_add, cell_of (hw.at_ hk)]
          rw [List.getElem?_append_left (List.getElem?_eq_some_iff.1 hu).1]
          exact hu))
theorem own_rd {e : TypeId} {sz n cap : Nat} {xs : List Value} {a : Addr} {c : SH} (h : Own e sz xs (.slice (some a) n cap) c) (k : Nat) (hk : S[k]? = some c) : Rd b S a xs := by
  rcases h with ⟨h, _⟩ | ⟨g, n', cap', rest, fz, h, rfl, h1, h2, h3, h4⟩
  · cases h
  · cases h
    exact rd_own (n := xs.length) k hk (by simp)
theorem own_row {e : TypeId} {sz n cap : Nat} {xs : List Value} {g : Nat} {c : SH} (h : Own e sz xs (.slice (some ⟨g, 0, none⟩) n cap) c) : ∃ rest fz, c = [(g, .cells (xs ++ rest).toArray e fz)] ∧ xs.length = n * sz ∧ (xs ++ rest).length = cap * sz ∧ n ≤ cap ∧ ∀ j, j < (xs ++ rest).length → ¬ (fz.1 ≤ j ∧ j < fz.2) := by
  rcases h with ⟨h, _⟩ | ⟨g', n', cap', rest, fz, h, rfl, h1, h2, h3, h4⟩
  · cases h
  · cases h
    exact ⟨rest, fz, rfl, h1, h2, h3, h4⟩
theorem own_form {e : TypeId} {sz : Nat} {xs : List Value} {v : Value} {c : SH} (h : Own e sz xs v c) (hz : 0 < sz) : ∃ n A cap, v = .slice A n cap ∧ xs.length = n * sz := by
  rcases h with ⟨rfl, rfl, rfl⟩ | ⟨g', n', cap', rest, fz, rfl, rfl, h1, h2, h3, h4⟩
  · exact ⟨0, none, 0, rfl, by simp⟩
  · exact ⟨n', _, _, rfl, h1⟩
theorem qs_min {t t' : TypeId} {x y : Operand} {k : IntKind} {m n : Int} (hx : ev env x = .int k m) (hy : ev env y = .int k n) : QS P (O (.call ⟨.builtin .min, #[x, y], #[t, t']⟩) ty) env b S (.int k (min m n)) := qs_run fun w => by
  have : (if n < m then n else m) = min m n := by omega
  simp [O, execOp, resolve, invoke, hx, hy, builtin, Builtin.min_, Builtin.min2, Sem.run_bind, Sem.run_pure, Result.andThen_ok, this]
theorem qs_max {t t' : TypeId} {x y : Operand} {k : IntKind} {m n : Int} (hx : ev env x = .int k m) (hy : ev env y = .int k n) : QS P (O (.call ⟨.builtin .max, #[x, y], #[t, t']⟩) ty) env b S (.int k (max m n)) := qs_run fun w => by
  have : (if n > m then n else m) = max m n := by omega
  simp [O, execOp, resolve, invoke, hx, hy, builtin, Builtin.max_, Builtin.max2, Sem.run_bind, Sem.run_pure, Result.andThen_ok, this]
end Go.Sx
/-! Sx7 -/
namespace Go.Sx
open Go
set_option linter.unusedVariables false
set_option linter.unusedSimpArgs false
variable {P : Program} {R : Ending → World → Prop} {env : Env} {b : Base} {S : List SH} {B : JB} {T : Tree} {v : Value} {ty : TypeId}
def by8 (z : Int) : UInt8 := UInt8.ofNat (IntKind.u8.wrap z).toNat
theorem wrap_by8 (z : Int) : IntKind.u8.wrap z = ((by8 z).toNat : Int) := by
  have h : 0 ≤ IntKind.u8.wrap z ∧ IntKind.u8.wrap z < 256 := by
    rw [IntKind.wrap_u8]; omega
  simp only [by8, UInt8.toNat_ofNat']
  omega
section
variable {t t' : TypeId} {x y : Operand}
theorem qs_ixl0 {e : TypeId} {n c : Nat} {a : Addr} {k : IntKind} {m : Int} (ht : P.underlying t = some (.slice e)) (hz : (P.info? e).map (·.size) = some 1) (hx : ev env x = .slice (some a) n c) (hy : ev env y = .int k m) (h : 0 ≤ m ∧ m < n) :
    QS P (O (.indexAddr t x y) ty) env b S (.pointer (some (a.add m.toNat))) := by
  have := qs_ixl (P := P) (b := b) (S := S) (ty := ty) ht hz hx hy h.1 h.2
  simpa using this
end
def Cells (w : World) (a : Addr) (vs : List Value) : Prop := ∀ j u, vs[j]? = some u → w.cell? (a.add j) = some u
theorem rd_cells {a : Addr} {vs : List Value} (h : Cells b.w0 a vs) (hD : a.block ∉ b.D) : Rd b S a vs := rd_ro h hD
theorem rd_w {a : Addr} {vs : List Value} (h : Rd b S a vs) {w : World} (hw : Sig b S w) : Cells w a vs := h w hw
theorem own_some {e : TypeId} {sz : Nat} {xs : List Value} {v : Value} {c : SH} (h : Own e sz xs v c) (hn : xs ≠ []) : ∃ g n cap, v = .slice (some ⟨g, 0, none⟩) n cap := by
  rcases h with ⟨rfl, rfl, rfl⟩ | ⟨g', n', cap', rest, fz, rfl, rfl, h1, h2, h3, h4⟩
  · exact absurd rfl hn
  · exact ⟨_, _, _, rfl⟩
theorem take_set_succ {α : Type} {l : List α} {i : Nat} (h : i < l.length) (x : α) : (l.set i x).take (i + 1) = l.take i ++ [x] := by
  rw [List.take_succ_eq_append_getElem (by simpa using h), List.take_set_of_le (Nat.le_refl _), List.getElem_set_self]
def numd : Nat → List Value → List (Nat × Value)
  | _, [] => []
  | k, v :: r => (k, v) :: numd (k + 1) r
theorem fill_seq : ∀ (vs pre suf : List Value), (∀ v ∈ vs, oneV v = true) → vs.length ≤ suf.length → Instr.fill (fun i => some (i * 1, 1)) (pre ++ suf).toArray (numd pre.length vs) = some (pre ++ vs ++ suf.drop vs.length).toArray
  | [], pre, suf, _, _ => by simp [numd, Instr.fill]
  | v :: vs, pre, suf, hv, hl => by
    have hc : v.cells = #[v] := cells_of_one (hv v (by simp))
    have ih := fill_seq vs (pre ++ [v]) (suf.drop 1) (fun u hu => hv u (by simp [hu])) (by simp at hl ⊢; omega)
    simp only [numd, Instr.fill, hc]
    cases suf with
    | nil => simp at hl
    | cons x suf =>
      have h1 : ¬ ((#[v] : Array Value).size ≠ 1 || pre.length * 1 + (#[v] : Array Value).size > (pre ++ x :: suf).toArray.size) = true := by
        simp
      rw [if_neg h1]
      have h2 : (#[v] : Array Value).zipIdx.foldl (fun cs (c, j) => cs.setIfInBounds (pre.length * 1 + j) c) (pre ++ x :: suf).toArray = (pre ++ [v] ++ suf).toArray := by
        simp
      rw [h2]
      simpa using ih
theorem j_lit {t e : TypeId} {n : Nat} {parts : Array (Nat × Operand)} {vs : List Value} {z : Value} (ht : P.underlying t = some (.slice e)) (hz : (P.info? e).map (·.size) = some 1) (h0 : zeroL P e = some [z]) (hp' : parts.toList.map (fun p => (p.1, ev env p.2)) = numd 0 vs) (hv : ∀ v ∈ vs, oneV v = true) (hn : vs.length = n ∧ n ≤ 16777216)
    (h : ∀ g v' c', v' = .slice (some ⟨g, 0, none⟩) n n → c' = [(g, .cells vs.toArray e (0, 0))] → Own e 1 vs v' c' → J P R T (v' :: env) (c' :: S) b B) : J P R (.op (O (.buildSlice t n parts) ty) T) env S b B := fun w hw => by
  obtain ⟨zv, hzv, hrunz⟩ := run_zero_ok h0
  obtain ⟨hn, hn2⟩ := hn
  have hp : (parts.map fun p => (p.1, ev env p.2)).toList = numd 0 vs := by rw [Array.toList_map]; exact hp'
  have hrun : (execOp (ev env) (O (.buildSlice t n parts) ty)).run P w = .ok (.value (.slice (some ⟨w.heap.size, 0, none⟩) n n)) (w.alloc (.cells vs.toArray e)) := by
    have hgt : ¬ (n * 1 > 2 ^ 24) := by omega
    have hf : ∀ zs : Array Value, zs.size = n * 1 → Instr.fill (fun i => some (i * 1, 1)) zs (parts.map fun p => (p.1, ev env p.2)).toList = some vs.toArray := by
      intro zs hzs
      rw [hp]
      have := fill_seq vs [] zs.toList hv (by simp; omega)
      simp only [List.nil_append, List.length_nil, Array.toArray_toList] at this
      rw [this]
      congr 1
      have : zs.toList.drop vs.length = [] := List.drop_of_length_le (by simp; omega)
      rw [this, List.append_nil]
    simp only [O, execOp, Instr.buildSlice, Sem.run_bind, run_underlying_ok ht, Result.andThen_ok, run_sizeOf_ok hz, if_neg hgt]
    by_cases hn0 : n * 1 = 0
    · simp only [if_pos hn0, Sem.run_pure, Result.andThen_ok, Sem.run_bind]
      rw [hf _ (by simp)]
      rfl
    · simp only [if_neg hn0, Sem.run_bind, hrunz, Sem.run_pure, Result.andThen_ok]
      rw [hf _ (by simp)]
      rfl
  show opW _ _ _ _ _ _
  unfold opW
  rw [hrun]
  refine h w.heap.size _ _ rfl rfl (.inr ⟨w.heap.size, n, n, [], (0, 0), rfl, by simp, by omega, by simp; omega, Nat.le_refl _, fun _ _ h => by omega⟩) _ (hw.new (o := .cells vs.toArray e) (w' := w.alloc (.cells vs.toArray e)) rfl rfl rfl rfl).1
theorem run_equal {t : TypeId} {x y : Value} {r : Bool} {w : World} (h : ∀ d, (Op.equalIn (d + 1) t x y).run P w = .ok r w) : (Op.equal t x y).run P w = .ok r w := h 9999
theorem run_eq {op : BinOp} {t t' : TypeId} {x y : Operand} {u v : Value} {r : Bool} {w : World} (hop : op = .eql ∨ op = .neq) (hx : ev env x = u) (hy : ev env y = v) (hg : eqGuard op t x y u v = pure ()) (hu : ∀ k m, u ≠ .int k m) (hf : ∀ k m, u ≠ .float k m) (hc : ∀ k m n, u ≠ .complex k m n) (hs : ∀ m, u ≠ .string m)
    (h : ∀ d, (Op.equalIn (d + 1) t u v).run P w = .ok r w) : (execOp (ev env) (O (.binOp op t x y t') ty)).run P w = .ok (.value (.bool (if op = .eql then r else !r))) w := by
  simp only [O, execOp, hx, hy, hg, Sem.run_bind, Sem.run_pure, Result.andThen_ok]
  have he := run_equal h
  have hb : binOp op t u v = (match op with | .eql => (do pure (.bool (← Op.equal t u v))) | _ => (do pure (.bool (!(← Op.equal t u v))))) := by
    rcases hop with rfl | rfl <;> cases u <;> first | rfl | exact absurd rfl (hu _ _) | exact absurd rfl (hf _ _) | exact absurd rfl (hc _ _ _) | exact absurd rfl (hs _)
  rw [hb]
  rcases hop with rfl | rfl <;> simp [Sem.run_bind, he, Sem.run_pure, Result.andThen_ok]
theorem qs_slnil {t t' e : TypeId} {x : Operand} {A : Option Addr} {n c n' c' : Nat} (ht : P.underlying t = some (.slice e)) (hx : ev env x = .slice A n c) : QS P (O (.binOp .eql t x (.const (.slice none n' c')) t') ty) env b S (.bool A.isNone) := qs_run fun w => by
  refine run_eq (r := A.isNone) (.inl rfl) hx rfl (by unfold eqGuard; rfl) (fun _ _ h => by cases h) (fun _ _ h => by cases h) (fun _ _ _ h => by cases h) (fun _ h => by cases h) fun d => ?_
  simp only [Op.equalIn, Sem.run_bind, run_underlying_ok ht, Result.andThen_ok, ev]
  cases A <;> rfl
end Go.Sx
/-! Fc1 -/
namespace Go.Proofs.Ytckpegkpdepokaa
open Go Go.Sx
set_option maxRecDepth 100000
theorem ent9 : Sx.Enters Try.prog 9 := ⟨_, Try.func9, by kernel_rfl, by kernel_rfl⟩
theorem ent10 : Sx.Enters Try.prog 10 := ⟨_, Try.func10, by kernel_rfl, by kernel_rfl⟩
theorem ent11 : Sx.Enters Try.prog 11 := ⟨_, Try.func11, by kernel_rfl, by kernel_rfl⟩
theorem ent12 : Sx.Enters Try.prog 12 := ⟨_, Try.func12, by kernel_rfl, by kernel_rfl⟩
theorem ent13 : Sx.Enters Try.prog 13 := ⟨_, Try.func13, by kernel_rfl, by kernel_rfl⟩
theorem ent14 : Sx.Enters Try.prog 14 := ⟨_, Try.func14, by kernel_rfl, by kernel_rfl⟩
theorem ent15 : Sx.Enters Try.prog 15 := ⟨_, Try.func15, by kernel_rfl, by kernel_rfl⟩
theorem ent16 : Sx.Enters Try.prog 16 := ⟨_, Try.func16, by kernel_rfl, by kernel_rfl⟩
theorem ent17 : Sx.Enters Try.prog 17 := ⟨_, Try.func17, by kernel_rfl, by kernel_rfl⟩
theorem ent18 : Sx.Enters Try.prog 18 := ⟨_, Try.func18, by kernel_rfl, by kernel_rfl⟩
theorem ent19 : Sx.Enters Try.prog 19 := ⟨_, Try.func19, by kernel_rfl, by kernel_rfl⟩
theorem ent20 : Sx.Enters Try.prog 20 := ⟨_, Try.func20, by kernel_rfl, by kernel_rfl⟩
theorem ent21 : Sx.Enters Try.prog 21 := ⟨_, Try.func21, by kernel_rfl, by kernel_rfl⟩
theorem ent22 : Sx.Enters Try.prog 22 := ⟨_, Try.func22, by kernel_rfl, by kernel_rfl⟩
theorem ent23 : Sx.Enters Try.prog 23 := ⟨_, Try.func23, by kernel_rfl, by kernel_rfl⟩
theorem ent24 : Sx.Enters Try.prog 24 := ⟨_, Try.func24, by kernel_rfl, by kernel_rfl⟩
theorem ent25 : Sx.Enters Try.prog 25 := ⟨_, Try.func25, by kernel_rfl, by kernel_rfl⟩
theorem ent26 : Sx.Enters Try.prog 26 := ⟨_, Try.func26, by kernel_rfl, by kernel_rfl⟩
theorem ent27 : Sx.Enters Try.prog 27 := ⟨_, Try.func27, by kernel_rfl, by kernel_rfl⟩
theorem ent28 : Sx.Enters Try.prog 28 := ⟨_, Try.func28, by kernel_rfl, by kernel_rfl⟩
theorem ent30 : Sx.Enters Try.prog 30 := ⟨_, Try.func30, by kernel_rfl, by kernel_rfl⟩
theorem ent31 : Sx.Enters Try.prog 31 := ⟨_, Try.func31, by kernel_rfl, by kernel_rfl⟩
theorem ent32 : Sx.Enters Try.prog 32 := ⟨_, Try.func32, by kernel_rfl, by kernel_rfl⟩
theorem ent33 : Sx.Enters Try.prog 33 := ⟨_, Try.func33, by kernel_rfl, by kernel_rfl⟩
theorem ent34 : Sx.Enters Try.prog 34 := ⟨_, Try.func34, by kernel_rfl, by kernel_rfl⟩
theorem ent35 : Sx.Enters Try.prog 35 := ⟨_, Try.func35, by kernel_rfl, by kernel_rfl⟩
theorem ent36 : Sx.Enters Try.prog 36 := ⟨_, Try.func36, by kernel_rfl, by kernel_rfl⟩
theorem ent37 : Sx.Enters Try.prog 37 := ⟨_, Try.func37, by kernel_rfl, by kernel_rfl⟩
theorem ent38 : Sx.Enters Try.prog 38 := ⟨_, Try.func38, by kernel_rfl, by kernel_rfl⟩
end Go.Proofs.Ytckpegkpdepokaa
