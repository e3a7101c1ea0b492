import Derived.Test.YtmjlnndnpdbagaaSym29
import Derived.Test.YtmjlnndnpdbagaaRows
set_option linter.all false
set_option linter.unusedSimpArgs false
set_option linter.unusedVariables false
set_option linter.deprecated false
namespace Go.Proofs.Ytmjlnndnpdbagaa
open Go Go.Sym
def tab : List (Nat × TI) :=
[
  (2, ⟨.int .i64, false, 1, 8, [.int .i64]⟩),
  (3, ⟨.int .i64, false, 1, 8, [.int .i64]⟩),
  (4, ⟨.bool, false, 1, 1, [.bool]⟩),
  (5, ⟨.int .u8, false, 1, 1, [.int .u8]⟩),
  (7, ⟨.struct [(0, 2), (1, 3), (2, 4), (3, 6)], true, 4, 24, [.int .i64, .int .i64, .bool, .int .u8]⟩),
  (9, ⟨.str, false, 1, 16, [.str]⟩),
  (12, ⟨.int .u64, false, 1, 8, [.int .u64]⟩),
  (13, ⟨.struct [(0, 9), (1, 12)], true, 2, 24, [.str, .int .u64]⟩),
  (15, ⟨.ptr 61, false, 1, 8, [.ptr]⟩),
  (16, ⟨.ptr 64, false, 1, 8, [.ptr]⟩),
  (17, ⟨.ptr 73, false, 1, 8, [.ptr]⟩),
  (18, ⟨.struct [(0, 17)], true, 1, 8, [.ptr]⟩),
  (21, ⟨.int .i32, false, 1, 4, [.int .i32]⟩),
  (23, ⟨.slice 3, false, 1, 24, [.sl]⟩),
  (24, ⟨.int .i64, false, 1, 8, [.int .i64]⟩),
  (27, ⟨.slice 23, false, 1, 24, [.sl]⟩),
  (34, ⟨.ptr 54, false, 1, 8, [.ptr]⟩),
  (40, ⟨.slice 27, false, 1, 24, [.sl]⟩),
  (47, ⟨.array 40 4, true, 40, 40, [.bool, .bool, .bool, .bool, .bool, .bool, .bool, .bool, .bool, .bool, .bool, .bool, .bool, .bool, .bool, .bool, .bool, .bool, .bool, .bool, .bool, .bool, .bool, .bool, .bool, .bool, .bool, .bool, .bool, .bool, .bool, .bool, .bool, .bool, .bool, .bool, .bool, .bool, .bool, .bool]⟩),
  (53, ⟨.struct [(0, 23), (1, 3)], true, 2, 32, [.sl, .int .i64]⟩),
  (54, ⟨.struct [(0, 23), (1, 3)], true, 2, 32, [.sl, .int .i64]⟩),
  (56, ⟨.array 9 23, true, 9, 216, [.sl, .sl, .sl, .sl, .sl, .sl, .sl, .sl, .sl]⟩),
  (60, ⟨.struct [(0, 17), (1, 17), (2, 17), (3, 9)], true, 4, 40, [.ptr, .ptr, .ptr, .str]⟩),
  (65, ⟨.int .u32, false, 1, 4, [.int .u32]⟩),
  (69, ⟨.ptr 5, false, 1, 8, [.ptr]⟩),
  (72, ⟨.struct [(0, 12), (1, 12), (2, 65), (3, 66), (4, 5), (5, 5), (6, 67), (7, 68), (8, 69), (9, 70), (10, 71)], true, 11, 48, [.int .u64, .int .u64, .int .u32, .int .u8, .int .u8, .int .u8, .int .u8, .fn, .ptr, .int .i32, .int .i32]⟩)]

theorem tab_ok : TOk Try.prog tab := TOk_of (by kernel_rfl)

theorem tb_2 : tl tab 2 = ⟨.int .i64, false, 1, 8, [.int .i64]⟩ := rfl
theorem tb_3 : tl tab 3 = ⟨.int .i64, false, 1, 8, [.int .i64]⟩ := rfl
theorem tb_4 : tl tab 4 = ⟨.bool, false, 1, 1, [.bool]⟩ := rfl
theorem tb_5 : tl tab 5 = ⟨.int .u8, false, 1, 1, [.int .u8]⟩ := rfl
theorem tb_7 : tl tab 7 = ⟨.struct [(0, 2), (1, 3), (2, 4), (3, 6)], true, 4, 24, [.int .i64, .int .i64, .bool, .int .u8]⟩ := rfl
theorem tb_9 : tl tab 9 = ⟨.str, false, 1, 16, [.str]⟩ := rfl
theorem tb_12 : tl tab 12 = ⟨.int .u64, false, 1, 8, [.int .u64]⟩ := rfl
theorem tb_13 : tl tab 13 = ⟨.struct [(0, 9), (1, 12)], true, 2, 24, [.str, .int .u64]⟩ := rfl
theorem tb_15 : tl tab 15 = ⟨.ptr 61, false, 1, 8, [.ptr]⟩ := rfl
theorem tb_16 : tl tab 16 = ⟨.ptr 64, false, 1, 8, [.ptr]⟩ := rfl
theorem tb_17 : tl tab 17 = ⟨.ptr 73, false, 1, 8, [.ptr]⟩ := rfl
theorem tb_18 : tl tab 18 = ⟨.struct [(0, 17)], true, 1, 8, [.ptr]⟩ := rfl
theorem tb_21 : tl tab 21 = ⟨.int .i32, false, 1, 4, [.int .i32]⟩ := rfl
theorem tb_23 : tl tab 23 = ⟨.slice 3, false, 1, 24, [.sl]⟩ := rfl
theorem tb_24 : tl tab 24 = ⟨.int .i64, false, 1, 8, [.int .i64]⟩ := rfl
theorem tb_27 : tl tab 27 = ⟨.slice 23, false, 1, 24, [.sl]⟩ := rfl
theorem tb_34 : tl tab 34 = ⟨.ptr 54, false, 1, 8, [.ptr]⟩ := rfl
theorem tb_40 : tl tab 40 = ⟨.slice 27, false, 1, 24, [.sl]⟩ := rfl
theorem tb_47 : tl tab 47 = ⟨.array 40 4, true, 40, 40, [.bool, .bool, .bool, .bool, .bool, .bool, .bool, .bool, .bool, .bool, .bool, .bool, .bool, .bool, .bool, .bool, .bool, .bool, .bool, .bool, .bool, .bool, .bool, .bool, .bool, .bool, .bool, .bool, .bool, .bool, .bool, .bool, .bool, .bool, .bool, .bool, .bool, .bool, .bool, .bool]⟩ := rfl
theorem tb_53 : tl tab 53 = ⟨.struct [(0, 23), (1, 3)], true, 2, 32, [.sl, .int .i64]⟩ := rfl
theorem tb_54 : tl tab 54 = ⟨.struct [(0, 23), (1, 3)], true, 2, 32, [.sl, .int .i64]⟩ := rfl
theorem tb_56 : tl tab 56 = ⟨.array 9 23, true, 9, 216, [.sl, .sl, .sl, .sl, .sl, .sl, .sl, .sl, .sl]⟩ := rfl
theorem tb_60 : tl tab 60 = ⟨.struct [(0, 17), (1, 17), (2, 17), (3, 9)], true, 4, 40, [.ptr, .ptr, .ptr, .str]⟩ := rfl
theorem tb_65 : tl tab 65 = ⟨.int .u32, false, 1, 4, [.int .u32]⟩ := rfl
theorem tb_69 : tl tab 69 = ⟨.ptr 5, false, 1, 8, [.ptr]⟩ := rfl
theorem tb_72 : tl tab 72 = ⟨.struct [(0, 12), (1, 12), (2, 65), (3, 66), (4, 5), (5, 5), (6, 67), (7, 68), (8, 69), (9, 70), (10, 71)], true, 11, 48, [.int .u64, .int .u64, .int .u32, .int .u8, .int .u8, .int .u8, .int .u8, .fn, .ptr, .int .i32, .int .i32]⟩ := rfl
attribute [go_sem] tb_2 tb_3 tb_4 tb_5 tb_7 tb_9 tb_12 tb_13 tb_15 tb_16 tb_17 tb_18 tb_21 tb_23 tb_24 tb_27 tb_34 tb_40 tb_47 tb_53 tb_54 tb_56 tb_60 tb_65 tb_69 tb_72
end Go.Proofs.Ytmjlnndnpdbagaa
