import Derived.Test.YtjhiagelgleomaaProg
import Derived.Test.YtjhiagelgleomaaAbsAB
namespace Go.Proofs.Ytjhiagelgleomaa
open Go.TravelAbs
def tyL : List (Nat × TI) := [
  (2, ⟨.int .i64, 1, 8, [(.int .i64 0)]⟩),
  (3, ⟨.int .i64, 1, 8, [(.int .i64 0)]⟩),
  (4, ⟨.bool, 1, 1, [(.bool false)]⟩),
  (5, ⟨.int .u8, 1, 1, [(.int .u8 0)]⟩),
  (9, ⟨.str, 1, 16, [(.string ⟨#[]⟩)]⟩),
  (12, ⟨.int .u64, 1, 8, [(.int .u64 0)]⟩),
  (21, ⟨.int .i32, 1, 4, [(.int .i32 0)]⟩),
  (22, ⟨.slice 5, 1, 24, [(.slice none 0 0)]⟩),
  (23, ⟨.array 2 22, 2, 48, [(.slice none 0 0), (.slice none 0 0)]⟩),
  (24, ⟨.struct [(0, 2, true)], 2, 48, [(.slice none 0 0), (.slice none 0 0)]⟩),
  (25, ⟨.struct [(0, 2, true)], 2, 48, [(.slice none 0 0), (.slice none 0 0)]⟩),
  (26, ⟨.int .i64, 1, 8, [(.int .i64 0)]⟩),
  (31, ⟨.slice 63, 1, 24, [(.slice none 0 0)]⟩),
  (39, ⟨.slice 3, 1, 24, [(.slice none 0 0)]⟩),
  (41, ⟨.one, 1, 8, [(.pointer none)]⟩),
  (42, ⟨.one, 1, 8, [.nilFunc]⟩),
  (45, ⟨.one, 1, 8, [.nilFunc]⟩),
  (56, ⟨.struct [(0, 1, false), (1, 1, false)], 2, 32, [(.int .i64 0), (.slice none 0 0)]⟩),
  (57, ⟨.struct [(0, 1, false), (1, 1, false)], 2, 32, [(.int .i64 0), (.slice none 0 0)]⟩),
  (62, ⟨.struct [(0, 1, false), (1, 1, false), (2, 1, false)], 3, 40, [(.int .i64 0), (.int .i64 0), (.slice none 0 0)]⟩),
  (63, ⟨.struct [(0, 1, false), (1, 1, false), (2, 1, false)], 3, 40, [(.int .i64 0), (.int .i64 0), (.slice none 0 0)]⟩),
  (64, ⟨.struct [(0, 1, false), (1, 1, false)], 2, 32, [(.slice none 0 0), (.int .i64 0)]⟩),
  (65, ⟨.struct [(0, 1, false), (1, 1, false)], 2, 32, [(.slice none 0 0), (.int .i64 0)]⟩),
  (68, ⟨.int .u64, 1, 8, [(.int .u64 0)]⟩),
  (81, ⟨.int .u32, 1, 4, [(.int .u32 0)]⟩)]
def ty : Ty := tyOf tyL
theorem ty_ok : TysOK Try.prog ty := tysOK (by kernel_rfl)
@[go_sem] theorem ty_2 : ty 2 = some ⟨.int .i64, 1, 8, [(.int .i64 0)]⟩ := rfl
@[go_sem] theorem ty_3 : ty 3 = some ⟨.int .i64, 1, 8, [(.int .i64 0)]⟩ := rfl
@[go_sem] theorem ty_4 : ty 4 = some ⟨.bool, 1, 1, [(.bool false)]⟩ := rfl
@[go_sem] theorem ty_5 : ty 5 = some ⟨.int .u8, 1, 1, [(.int .u8 0)]⟩ := rfl
@[go_sem] theorem ty_9 : ty 9 = some ⟨.str, 1, 16, [(.string ⟨#[]⟩)]⟩ := rfl
@[go_sem] theorem ty_12 : ty 12 = some ⟨.int .u64, 1, 8, [(.int .u64 0)]⟩ := rfl
@[go_sem] theorem ty_21 : ty 21 = some ⟨.int .i32, 1, 4, [(.int .i32 0)]⟩ := rfl
@[go_sem] theorem ty_22 : ty 22 = some ⟨.slice 5, 1, 24, [(.slice none 0 0)]⟩ := rfl
@[go_sem] theorem ty_23 : ty 23 = some ⟨.array 2 22, 2, 48, [(.slice none 0 0), (.slice none 0 0)]⟩ := rfl
@[go_sem] theorem ty_24 : ty 24 = some ⟨.struct [(0, 2, true)], 2, 48, [(.slice none 0 0), (.slice none 0 0)]⟩ := rfl
@[go_sem] theorem ty_25 : ty 25 = some ⟨.struct [(0, 2, true)], 2, 48, [(.slice none 0 0), (.slice none 0 0)]⟩ := rfl
@[go_sem] theorem ty_26 : ty 26 = some ⟨.int .i64, 1, 8, [(.int .i64 0)]⟩ := rfl
@[go_sem] theorem ty_31 : ty 31 = some ⟨.slice 63, 1, 24, [(.slice none 0 0)]⟩ := rfl
@[go_sem] theorem ty_39 : ty 39 = some ⟨.slice 3, 1, 24, [(.slice none 0 0)]⟩ := rfl
@[go_sem] theorem ty_41 : ty 41 = some ⟨.one, 1, 8, [(.pointer none)]⟩ := rfl
@[go_sem] theorem ty_42 : ty 42 = some ⟨.one, 1, 8, [.nilFunc]⟩ := rfl
@[go_sem] theorem ty_45 : ty 45 = some ⟨.one, 1, 8, [.nilFunc]⟩ := rfl
@[go_sem] theorem ty_56 : ty 56 = some ⟨.struct [(0, 1, false), (1, 1, false)], 2, 32, [(.int .i64 0), (.slice none 0 0)]⟩ := rfl
@[go_sem] theorem ty_57 : ty 57 = some ⟨.struct [(0, 1, false), (1, 1, false)], 2, 32, [(.int .i64 0), (.slice none 0 0)]⟩ := rfl
@[go_sem] theorem ty_62 : ty 62 = some ⟨.struct [(0, 1, false), (1, 1, false), (2, 1, false)], 3, 40, [(.int .i64 0), (.int .i64 0), (.slice none 0 0)]⟩ := rfl
@[go_sem] theorem ty_63 : ty 63 = some ⟨.struct [(0, 1, false), (1, 1, false), (2, 1, false)], 3, 40, [(.int .i64 0), (.int .i64 0), (.slice none 0 0)]⟩ := rfl
@[go_sem] theorem ty_64 : ty 64 = some ⟨.struct [(0, 1, false), (1, 1, false)], 2, 32, [(.slice none 0 0), (.int .i64 0)]⟩ := rfl
@[go_sem] theorem ty_65 : ty 65 = some ⟨.struct [(0, 1, false), (1, 1, false)], 2, 32, [(.slice none 0 0), (.int .i64 0)]⟩ := rfl
@[go_sem] theorem ty_68 : ty 68 = some ⟨.int .u64, 1, 8, [(.int .u64 0)]⟩ := rfl
@[go_sem] theorem ty_81 : ty 81 = some ⟨.int .u32, 1, 4, [(.int .u32 0)]⟩ := rfl
end Go.Proofs.Ytjhiagelgleomaa
