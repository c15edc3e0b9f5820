import Derived.Test.YtnjmedihheblaaaProg
import Derived.Test.YtnjmedihheblaaaAbsAB
namespace Go.Proofs.Ytnjmedihheblaaa
open Go.TravelAbs
def tyL : List (Nat × TI) := [
  (2, ⟨.int .i64, 1, 8, [(.int .i64 0)]⟩),
  (3, ⟨.int .i64, 1, 8, [(.int .i64 0)]⟩),
  (4, ⟨.bool, 1, 1, [(.bool false)]⟩),
  (5, ⟨.int .u8, 1, 1, [(.int .u8 0)]⟩),
  (9, ⟨.str, 1, 16, [(.string ⟨#[]⟩)]⟩),
  (12, ⟨.int .u64, 1, 8, [(.int .u64 0)]⟩),
  (21, ⟨.int .i32, 1, 4, [(.int .i32 0)]⟩),
  (22, ⟨.struct [(0, 1, false), (1, 1, false)], 2, 16, [(.int .i64 0), (.int .i64 0)]⟩),
  (23, ⟨.struct [(0, 1, false), (1, 1, false)], 2, 16, [(.int .i64 0), (.int .i64 0)]⟩),
  (24, ⟨.struct [(0, 1, false), (1, 1, false), (2, 1, false), (3, 1, false), (4, 1, false)], 5, 24, [(.int .i64 0), (.bool false), (.bool false), (.bool false), (.int .i64 0)]⟩),
  (25, ⟨.struct [(0, 1, false), (1, 1, false), (2, 1, false), (3, 1, false), (4, 1, false)], 5, 24, [(.int .i64 0), (.bool false), (.bool false), (.bool false), (.int .i64 0)]⟩),
  (28, ⟨.slice 3, 1, 24, [(.slice none 0 0)]⟩),
  (30, ⟨.one, 1, 8, [(.pointer none)]⟩),
  (31, ⟨.one, 1, 8, [.nilFunc]⟩),
  (34, ⟨.int .u64, 1, 8, [(.int .u64 0)]⟩),
  (36, ⟨.slice 5, 1, 24, [(.slice none 0 0)]⟩),
  (38, ⟨.struct [(0, 1, false), (1, 1, false), (2, 1, false), (3, 2, true)], 5, 56, [(.int .i64 0), (.int .i64 0), (.slice none 0 0), (.int .i64 0), (.int .i64 0)]⟩),
  (39, ⟨.struct [(0, 1, false), (1, 1, false), (2, 1, false), (3, 2, true)], 5, 56, [(.int .i64 0), (.int .i64 0), (.slice none 0 0), (.int .i64 0), (.int .i64 0)]⟩),
  (40, ⟨.slice 39, 1, 24, [(.slice none 0 0)]⟩),
  (41, ⟨.slice 76, 1, 24, [(.slice none 0 0)]⟩),
  (42, ⟨.struct [(0, 1, false), (1, 1, false)], 2, 48, [(.slice none 0 0), (.slice none 0 0)]⟩),
  (43, ⟨.struct [(0, 1, false), (1, 1, false)], 2, 48, [(.slice none 0 0), (.slice none 0 0)]⟩),
  (45, ⟨.struct [(0, 1, false), (1, 1, false)], 2, 16, [(.int .i64 0), (.int .i64 0)]⟩),
  (46, ⟨.struct [(0, 1, false), (1, 1, false)], 2, 16, [(.int .i64 0), (.int .i64 0)]⟩),
  (47, ⟨.int .i64, 1, 8, [(.int .i64 0)]⟩),
  (54, ⟨.struct [(0, 2, true), (2, 5, true), (7, 1, false)], 8, 48, [(.int .i64 0), (.int .i64 0), (.int .i64 0), (.bool false), (.bool false), (.bool false), (.int .i64 0), (.int .i64 0)]⟩),
  (55, ⟨.struct [(0, 2, true), (2, 5, true), (7, 1, false)], 8, 48, [(.int .i64 0), (.int .i64 0), (.int .i64 0), (.bool false), (.bool false), (.bool false), (.int .i64 0), (.int .i64 0)]⟩),
  (64, ⟨.struct [(0, 1, false), (1, 1, false)], 2, 32, [(.slice none 0 0), (.int .i64 0)]⟩),
  (65, ⟨.struct [(0, 1, false), (1, 1, false)], 2, 32, [(.slice none 0 0), (.int .i64 0)]⟩),
  (75, ⟨.struct [(0, 1, false), (1, 1, false)], 2, 48, [(.slice none 0 0), (.slice none 0 0)]⟩),
  (76, ⟨.struct [(0, 1, false), (1, 1, false)], 2, 48, [(.slice none 0 0), (.slice none 0 0)]⟩),
  (95, ⟨.int .u32, 1, 4, [(.int .u32 0)]⟩)]
def tyE : List (Nat × List EK) := [(22, [.int, .int]), (23, [.int, .int]), (24, [.int, .bool, .bool, .bool, .int]), (25, [.int, .bool, .bool, .bool, .int]), (45, [.int, .int]), (46, [.int, .int])]
def ty : Ty := tyOf tyL tyE
theorem ty_ok : TysOK Try.prog ty := tysOK (by kernel_rfl) (by kernel_rfl)
@[go_sem] theorem tyq_22 : ty.eq 22 = some [.int, .int] := rfl
@[go_sem] theorem tyq_23 : ty.eq 23 = some [.int, .int] := rfl
@[go_sem] theorem tyq_24 : ty.eq 24 = some [.int, .bool, .bool, .bool, .int] := rfl
@[go_sem] theorem tyq_25 : ty.eq 25 = some [.int, .bool, .bool, .bool, .int] := rfl
@[go_sem] theorem tyq_45 : ty.eq 45 = some [.int, .int] := rfl
@[go_sem] theorem tyq_46 : ty.eq 46 = some [.int, .int] := rfl
@[go_sem] theorem ty_2 : ty 2 = some ⟨.int .i64, 1, 8, [(.int .i64 0)]⟩ := rfl
@[go_sem] theorem ty_3 : ty 3 = some ⟨.int .i64, 1, 8, [(.int .i64 0)]⟩ := rfl
@[go_sem] theorem ty_4 : ty 4 = some ⟨.bool, 1, 1, [(.bool false)]⟩ := rfl
@[go_sem] theorem ty_5 : ty 5 = some ⟨.int .u8, 1, 1, [(.int .u8 0)]⟩ := rfl
@[go_sem] theorem ty_9 : ty 9 = some ⟨.str, 1, 16, [(.string ⟨#[]⟩)]⟩ := rfl
@[go_sem] theorem ty_12 : ty 12 = some ⟨.int .u64, 1, 8, [(.int .u64 0)]⟩ := rfl
@[go_sem] theorem ty_21 : ty 21 = some ⟨.int .i32, 1, 4, [(.int .i32 0)]⟩ := rfl
@[go_sem] theorem ty_22 : ty 22 = some ⟨.struct [(0, 1, false), (1, 1, false)], 2, 16, [(.int .i64 0), (.int .i64 0)]⟩ := rfl
@[go_sem] theorem ty_23 : ty 23 = some ⟨.struct [(0, 1, false), (1, 1, false)], 2, 16, [(.int .i64 0), (.int .i64 0)]⟩ := rfl
@[go_sem] theorem ty_24 : ty 24 = some ⟨.struct [(0, 1, false), (1, 1, false), (2, 1, false), (3, 1, false), (4, 1, false)], 5, 24, [(.int .i64 0), (.bool false), (.bool false), (.bool false), (.int .i64 0)]⟩ := rfl
@[go_sem] theorem ty_25 : ty 25 = some ⟨.struct [(0, 1, false), (1, 1, false), (2, 1, false), (3, 1, false), (4, 1, false)], 5, 24, [(.int .i64 0), (.bool false), (.bool false), (.bool false), (.int .i64 0)]⟩ := rfl
@[go_sem] theorem ty_28 : ty 28 = some ⟨.slice 3, 1, 24, [(.slice none 0 0)]⟩ := rfl
@[go_sem] theorem ty_30 : ty 30 = some ⟨.one, 1, 8, [(.pointer none)]⟩ := rfl
@[go_sem] theorem ty_31 : ty 31 = some ⟨.one, 1, 8, [.nilFunc]⟩ := rfl
@[go_sem] theorem ty_34 : ty 34 = some ⟨.int .u64, 1, 8, [(.int .u64 0)]⟩ := rfl
@[go_sem] theorem ty_36 : ty 36 = some ⟨.slice 5, 1, 24, [(.slice none 0 0)]⟩ := rfl
@[go_sem] theorem ty_38 : ty 38 = some ⟨.struct [(0, 1, false), (1, 1, false), (2, 1, false), (3, 2, true)], 5, 56, [(.int .i64 0), (.int .i64 0), (.slice none 0 0), (.int .i64 0), (.int .i64 0)]⟩ := rfl
@[go_sem] theorem ty_39 : ty 39 = some ⟨.struct [(0, 1, false), (1, 1, false), (2, 1, false), (3, 2, true)], 5, 56, [(.int .i64 0), (.int .i64 0), (.slice none 0 0), (.int .i64 0), (.int .i64 0)]⟩ := rfl
@[go_sem] theorem ty_40 : ty 40 = some ⟨.slice 39, 1, 24, [(.slice none 0 0)]⟩ := rfl
@[go_sem] theorem ty_41 : ty 41 = some ⟨.slice 76, 1, 24, [(.slice none 0 0)]⟩ := rfl
@[go_sem] theorem ty_42 : ty 42 = some ⟨.struct [(0, 1, false), (1, 1, false)], 2, 48, [(.slice none 0 0), (.slice none 0 0)]⟩ := rfl
@[go_sem] theorem ty_43 : ty 43 = some ⟨.struct [(0, 1, false), (1, 1, false)], 2, 48, [(.slice none 0 0), (.slice none 0 0)]⟩ := rfl
@[go_sem] theorem ty_45 : ty 45 = some ⟨.struct [(0, 1, false), (1, 1, false)], 2, 16, [(.int .i64 0), (.int .i64 0)]⟩ := rfl
@[go_sem] theorem ty_46 : ty 46 = some ⟨.struct [(0, 1, false), (1, 1, false)], 2, 16, [(.int .i64 0), (.int .i64 0)]⟩ := rfl
@[go_sem] theorem ty_47 : ty 47 = some ⟨.int .i64, 1, 8, [(.int .i64 0)]⟩ := rfl
@[go_sem] theorem ty_54 : ty 54 = some ⟨.struct [(0, 2, true), (2, 5, true), (7, 1, false)], 8, 48, [(.int .i64 0), (.int .i64 0), (.int .i64 0), (.bool false), (.bool false), (.bool false), (.int .i64 0), (.int .i64 0)]⟩ := rfl
@[go_sem] theorem ty_55 : ty 55 = some ⟨.struct [(0, 2, true), (2, 5, true), (7, 1, false)], 8, 48, [(.int .i64 0), (.int .i64 0), (.int .i64 0), (.bool false), (.bool false), (.bool false), (.int .i64 0), (.int .i64 0)]⟩ := rfl
@[go_sem] theorem ty_64 : ty 64 = some ⟨.struct [(0, 1, false), (1, 1, false)], 2, 32, [(.slice none 0 0), (.int .i64 0)]⟩ := rfl
@[go_sem] theorem ty_65 : ty 65 = some ⟨.struct [(0, 1, false), (1, 1, false)], 2, 32, [(.slice none 0 0), (.int .i64 0)]⟩ := rfl
@[go_sem] theorem ty_75 : ty 75 = some ⟨.struct [(0, 1, false), (1, 1, false)], 2, 48, [(.slice none 0 0), (.slice none 0 0)]⟩ := rfl
@[go_sem] theorem ty_76 : ty 76 = some ⟨.struct [(0, 1, false), (1, 1, false)], 2, 48, [(.slice none 0 0), (.slice none 0 0)]⟩ := rfl
@[go_sem] theorem ty_95 : ty 95 = some ⟨.int .u32, 1, 4, [(.int .u32 0)]⟩ := rfl
end Go.Proofs.Ytnjmedihheblaaa
