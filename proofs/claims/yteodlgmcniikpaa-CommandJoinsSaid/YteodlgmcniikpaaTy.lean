import Derived.Test.YteodlgmcniikpaaProg
import Derived.Test.YteodlgmcniikpaaAbsAB
namespace Go.Proofs.Yteodlgmcniikpaa
open Go.TravelAbs
def tyL : List (Nat × TI) := [
  (2, ⟨.int .i64, 1, 8, [(.int .i64 0)]⟩),
  (3, ⟨.int .i64, 1, 8, [(.int .i64 0)]⟩),
  (4, ⟨.bool, 1, 1, [(.bool false)]⟩),
  (5, ⟨.int .u8, 1, 1, [(.int .u8 0)]⟩),
  (9, ⟨.str, 1, 16, [(.string ⟨#[]⟩)]⟩),
  (12, ⟨.int .u64, 1, 8, [(.int .u64 0)]⟩),
  (21, ⟨.int .i32, 1, 4, [(.int .i32 0)]⟩),
  (22, ⟨.slice 5, 1, 24, [(.slice none 0 0)]⟩),
  (23, ⟨.struct [(0, 1, false), (1, 1, false), (2, 1, false), (3, 1, false), (4, 1, false), (5, 1, false)], 6, 64, [(.int .i64 0), (.int .i64 0), (.int .i64 0), (.int .i64 0), (.slice none 0 0), (.int .i64 0)]⟩),
  (24, ⟨.struct [(0, 1, false), (1, 1, false), (2, 1, false), (3, 1, false), (4, 1, false), (5, 1, false)], 6, 64, [(.int .i64 0), (.int .i64 0), (.int .i64 0), (.int .i64 0), (.slice none 0 0), (.int .i64 0)]⟩),
  (25, ⟨.int .i64, 1, 8, [(.int .i64 0)]⟩),
  (35, ⟨.slice 3, 1, 24, [(.slice none 0 0)]⟩),
  (37, ⟨.one, 1, 8, [(.pointer none)]⟩),
  (38, ⟨.one, 1, 8, [.nilFunc]⟩),
  (43, ⟨.struct [(0, 1, false), (1, 1, false)], 2, 32, [(.slice none 0 0), (.int .i64 0)]⟩),
  (44, ⟨.struct [(0, 1, false), (1, 1, false)], 2, 32, [(.slice none 0 0), (.int .i64 0)]⟩),
  (51, ⟨.array 2 24, 12, 128, [(.int .i64 0), (.int .i64 0), (.int .i64 0), (.int .i64 0), (.slice none 0 0), (.int .i64 0), (.int .i64 0), (.int .i64 0), (.int .i64 0), (.int .i64 0), (.slice none 0 0), (.int .i64 0)]⟩),
  (52, ⟨.slice 24, 1, 24, [(.slice none 0 0)]⟩),
  (61, ⟨.int .u64, 1, 8, [(.int .u64 0)]⟩),
  (66, ⟨.struct [(0, 1, false), (1, 1, false)], 2, 32, [(.slice none 0 0), (.int .i64 0)]⟩),
  (67, ⟨.struct [(0, 1, false), (1, 1, false)], 2, 32, [(.slice none 0 0), (.int .i64 0)]⟩),
  (70, ⟨.slice 22, 1, 24, [(.slice none 0 0)]⟩),
  (86, ⟨.int .u32, 1, 4, [(.int .u32 0)]⟩)]
def tyE : List (Nat × List EK) := []
def ty : Ty := tyOf tyL tyE
theorem ty_ok : TysOK Try.prog ty := tysOK (by kernel_rfl) (by kernel_rfl)

@[go_sem] theorem ty_2 : ty 2 = some ⟨.int .i64, 1, 8, [(.int .i64 0)]⟩ := rfl
@[go_sem] theorem ty_3 : ty 3 = some ⟨.int .i64, 1, 8, [(.int .i64 0)]⟩ := rfl
@[go_sem] theorem ty_4 : ty 4 = some ⟨.bool, 1, 1, [(.bool false)]⟩ := rfl
@[go_sem] theorem ty_5 : ty 5 = some ⟨.int .u8, 1, 1, [(.int .u8 0)]⟩ := rfl
@[go_sem] theorem ty_9 : ty 9 = some ⟨.str, 1, 16, [(.string ⟨#[]⟩)]⟩ := rfl
@[go_sem] theorem ty_12 : ty 12 = some ⟨.int .u64, 1, 8, [(.int .u64 0)]⟩ := rfl
@[go_sem] theorem ty_21 : ty 21 = some ⟨.int .i32, 1, 4, [(.int .i32 0)]⟩ := rfl
@[go_sem] theorem ty_22 : ty 22 = some ⟨.slice 5, 1, 24, [(.slice none 0 0)]⟩ := rfl
@[go_sem] theorem ty_23 : ty 23 = some ⟨.struct [(0, 1, false), (1, 1, false), (2, 1, false), (3, 1, false), (4, 1, false), (5, 1, false)], 6, 64, [(.int .i64 0), (.int .i64 0), (.int .i64 0), (.int .i64 0), (.slice none 0 0), (.int .i64 0)]⟩ := rfl
@[go_sem] theorem ty_24 : ty 24 = some ⟨.struct [(0, 1, false), (1, 1, false), (2, 1, false), (3, 1, false), (4, 1, false), (5, 1, false)], 6, 64, [(.int .i64 0), (.int .i64 0), (.int .i64 0), (.int .i64 0), (.slice none 0 0), (.int .i64 0)]⟩ := rfl
@[go_sem] theorem ty_25 : ty 25 = some ⟨.int .i64, 1, 8, [(.int .i64 0)]⟩ := rfl
@[go_sem] theorem ty_35 : ty 35 = some ⟨.slice 3, 1, 24, [(.slice none 0 0)]⟩ := rfl
@[go_sem] theorem ty_37 : ty 37 = some ⟨.one, 1, 8, [(.pointer none)]⟩ := rfl
@[go_sem] theorem ty_38 : ty 38 = some ⟨.one, 1, 8, [.nilFunc]⟩ := rfl
@[go_sem] theorem ty_43 : ty 43 = some ⟨.struct [(0, 1, false), (1, 1, false)], 2, 32, [(.slice none 0 0), (.int .i64 0)]⟩ := rfl
@[go_sem] theorem ty_44 : ty 44 = some ⟨.struct [(0, 1, false), (1, 1, false)], 2, 32, [(.slice none 0 0), (.int .i64 0)]⟩ := rfl
@[go_sem] theorem ty_51 : ty 51 = some ⟨.array 2 24, 12, 128, [(.int .i64 0), (.int .i64 0), (.int .i64 0), (.int .i64 0), (.slice none 0 0), (.int .i64 0), (.int .i64 0), (.int .i64 0), (.int .i64 0), (.int .i64 0), (.slice none 0 0), (.int .i64 0)]⟩ := rfl
@[go_sem] theorem ty_52 : ty 52 = some ⟨.slice 24, 1, 24, [(.slice none 0 0)]⟩ := rfl
@[go_sem] theorem ty_61 : ty 61 = some ⟨.int .u64, 1, 8, [(.int .u64 0)]⟩ := rfl
@[go_sem] theorem ty_66 : ty 66 = some ⟨.struct [(0, 1, false), (1, 1, false)], 2, 32, [(.slice none 0 0), (.int .i64 0)]⟩ := rfl
@[go_sem] theorem ty_67 : ty 67 = some ⟨.struct [(0, 1, false), (1, 1, false)], 2, 32, [(.slice none 0 0), (.int .i64 0)]⟩ := rfl
@[go_sem] theorem ty_70 : ty 70 = some ⟨.slice 22, 1, 24, [(.slice none 0 0)]⟩ := rfl
@[go_sem] theorem ty_86 : ty 86 = some ⟨.int .u32, 1, 4, [(.int .u32 0)]⟩ := rfl
end Go.Proofs.Yteodlgmcniikpaa
