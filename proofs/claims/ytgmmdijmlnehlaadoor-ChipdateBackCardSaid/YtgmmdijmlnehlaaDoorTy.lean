import Derived.Test.YtgmmdijmlnehlaaDoorProg
import Derived.Test.YtgmmdijmlnehlaaDoorAbsAB
namespace Go.Proofs.YtgmmdijmlnehlaaDoor
open Go.TravelAbs
def tyL : List (Nat × TI) := [
  (2, ⟨.int .i64, 1, 8, [(.int .i64 0)]⟩),
  (3, ⟨.int .i64, 1, 8, [(.int .i64 0)]⟩),
  (4, ⟨.bool, 1, 1, [(.bool false)]⟩),
  (5, ⟨.int .u8, 1, 1, [(.int .u8 0)]⟩),
  (9, ⟨.str, 1, 16, [(.string ⟨#[]⟩)]⟩),
  (12, ⟨.int .u64, 1, 8, [(.int .u64 0)]⟩),
  (21, ⟨.int .i32, 1, 4, [(.int .i32 0)]⟩),
  (22, ⟨.slice 52, 1, 24, [(.slice none 0 0)]⟩),
  (23, ⟨.struct [(0, 1, false), (1, 1, false)], 2, 32, [(.slice none 0 0), (.int .i64 0)]⟩),
  (24, ⟨.struct [(0, 1, false), (1, 1, false)], 2, 32, [(.slice none 0 0), (.int .i64 0)]⟩),
  (27, ⟨.int .i64, 1, 8, [(.int .i64 0)]⟩),
  (29, ⟨.slice 5, 1, 24, [(.slice none 0 0)]⟩),
  (36, ⟨.slice 3, 1, 24, [(.slice none 0 0)]⟩),
  (39, ⟨.struct [(0, 1, false), (1, 1, false), (2, 1, false), (3, 1, false), (4, 1, false), (5, 1, false)], 6, 56, [(.string ⟨#[]⟩), (.int .i64 0), (.int .i64 0), (.int .i64 0), (.int .i64 0), (.int .i64 0)]⟩),
  (40, ⟨.struct [(0, 1, false), (1, 1, false), (2, 1, false), (3, 1, false), (4, 1, false), (5, 1, false)], 6, 56, [(.string ⟨#[]⟩), (.int .i64 0), (.int .i64 0), (.int .i64 0), (.int .i64 0), (.int .i64 0)]⟩),
  (41, ⟨.struct [(0, 1, false), (1, 1, false)], 2, 16, [(.int .i64 0), (.int .i64 0)]⟩),
  (42, ⟨.struct [(0, 1, false), (1, 1, false)], 2, 16, [(.int .i64 0), (.int .i64 0)]⟩),
  (43, ⟨.struct [(0, 1, false), (1, 1, false), (2, 1, false), (3, 1, false), (4, 1, false), (5, 1, false), (6, 1, false), (7, 2, true)], 9, 88, [(.string ⟨#[]⟩), (.string ⟨#[]⟩), (.int .i64 0), (.int .i64 0), (.int .i64 0), (.int .i64 0), (.int .i64 0), (.int .i64 0), (.int .i64 0)]⟩),
  (44, ⟨.struct [(0, 1, false), (1, 1, false), (2, 1, false), (3, 1, false), (4, 1, false), (5, 1, false), (6, 1, false), (7, 2, true)], 9, 88, [(.string ⟨#[]⟩), (.string ⟨#[]⟩), (.int .i64 0), (.int .i64 0), (.int .i64 0), (.int .i64 0), (.int .i64 0), (.int .i64 0), (.int .i64 0)]⟩),
  (47, ⟨.slice 9, 1, 24, [(.slice none 0 0)]⟩),
  (51, ⟨.struct [(0, 1, false), (1, 1, false), (2, 1, false), (3, 1, false), (4, 1, false)], 5, 48, [(.string ⟨#[]⟩), (.int .i64 0), (.int .i64 0), (.int .i64 0), (.int .i64 0)]⟩),
  (52, ⟨.struct [(0, 1, false), (1, 1, false), (2, 1, false), (3, 1, false), (4, 1, false)], 5, 48, [(.string ⟨#[]⟩), (.int .i64 0), (.int .i64 0), (.int .i64 0), (.int .i64 0)]⟩),
  (61, ⟨.int .u64, 1, 8, [(.int .u64 0)]⟩),
  (63, ⟨.one, 1, 8, [(.pointer none)]⟩),
  (64, ⟨.struct [(0, 1, false), (1, 1, false), (2, 1, false)], 3, 40, [(.slice none 0 0), (.int .i64 0), (.bool false)]⟩),
  (65, ⟨.struct [(0, 1, false), (1, 1, false), (2, 1, false)], 3, 40, [(.slice none 0 0), (.int .i64 0), (.bool false)]⟩),
  (71, ⟨.one, 1, 8, [(.pointer none)]⟩),
  (72, ⟨.one, 1, 8, [.nilFunc]⟩),
  (83, ⟨.struct [(0, 1, false), (1, 1, false)], 2, 32, [(.slice none 0 0), (.int .i64 0)]⟩),
  (84, ⟨.struct [(0, 1, false), (1, 1, false)], 2, 32, [(.slice none 0 0), (.int .i64 0)]⟩),
  (91, ⟨.slice 93, 1, 24, [(.slice none 0 0)]⟩),
  (92, ⟨.struct [(0, 1, false), (1, 1, false), (2, 1, false)], 3, 56, [(.int .i64 0), (.slice none 0 0), (.slice none 0 0)]⟩),
  (93, ⟨.struct [(0, 1, false), (1, 1, false), (2, 1, false)], 3, 56, [(.int .i64 0), (.slice none 0 0), (.slice none 0 0)]⟩),
  (104, ⟨.slice 108, 1, 24, [(.slice none 0 0)]⟩),
  (108, ⟨.int .u32, 1, 4, [(.int .u32 0)]⟩),
  (111, ⟨.int .u64, 1, 8, [(.int .u64 0)]⟩),
  (112, ⟨.array 64 108, 64, 256, [(.int .u32 0), (.int .u32 0), (.int .u32 0), (.int .u32 0), (.int .u32 0), (.int .u32 0), (.int .u32 0), (.int .u32 0), (.int .u32 0), (.int .u32 0), (.int .u32 0), (.int .u32 0), (.int .u32 0), (.int .u32 0), (.int .u32 0), (.int .u32 0), (.int .u32 0), (.int .u32 0), (.int .u32 0), (.int .u32 0), (.int .u32 0), (.int .u32 0), (.int .u32 0), (.int .u32 0), (.int .u32 0), (.int .u32 0), (.int .u32 0), (.int .u32 0), (.int .u32 0), (.int .u32 0), (.int .u32 0), (.int .u32 0), (.int .u32 0), (.int .u32 0), (.int .u32 0), (.int .u32 0), (.int .u32 0), (.int .u32 0), (.int .u32 0), (.int .u32 0), (.int .u32 0), (.int .u32 0), (.int .u32 0), (.int .u32 0), (.int .u32 0), (.int .u32 0), (.int .u32 0), (.int .u32 0), (.int .u32 0), (.int .u32 0), (.int .u32 0), (.int .u32 0), (.int .u32 0), (.int .u32 0), (.int .u32 0), (.int .u32 0), (.int .u32 0), (.int .u32 0), (.int .u32 0), (.int .u32 0), (.int .u32 0), (.int .u32 0), (.int .u32 0), (.int .u32 0)]⟩)]
def tyE : List (Nat × List EK) := [(39, [.str, .int, .int, .int, .int, .int]), (40, [.str, .int, .int, .int, .int, .int]), (41, [.int, .int]), (42, [.int, .int]), (51, [.str, .int, .int, .int, .int]), (52, [.str, .int, .int, .int, .int])]
def ty : Ty := tyOf tyL tyE
theorem ty_ok : TysOK Tryd.prog ty := tysOK (by kernel_rfl) (by kernel_rfl)
@[go_sem] theorem tyq_39 : ty.eq 39 = some [.str, .int, .int, .int, .int, .int] := rfl
@[go_sem] theorem tyq_40 : ty.eq 40 = some [.str, .int, .int, .int, .int, .int] := rfl
@[go_sem] theorem tyq_41 : ty.eq 41 = some [.int, .int] := rfl
@[go_sem] theorem tyq_42 : ty.eq 42 = some [.int, .int] := rfl
@[go_sem] theorem tyq_51 : ty.eq 51 = some [.str, .int, .int, .int, .int] := rfl
@[go_sem] theorem tyq_52 : ty.eq 52 = some [.str, .int, .int, .int, .int] := rfl
@[go_sem] theorem ty_2 : ty 2 = some ⟨.int .i64, 1, 8, [(.int .i64 0)]⟩ := rfl
@[go_sem] theorem ty_3 : ty 3 = some ⟨.int .i64, 1, 8, [(.int .i64 0)]⟩ := rfl
@[go_sem] theorem ty_4 : ty 4 = some ⟨.bool, 1, 1, [(.bool false)]⟩ := rfl
@[go_sem] theorem ty_5 : ty 5 = some ⟨.int .u8, 1, 1, [(.int .u8 0)]⟩ := rfl
@[go_sem] theorem ty_9 : ty 9 = some ⟨.str, 1, 16, [(.string ⟨#[]⟩)]⟩ := rfl
@[go_sem] theorem ty_12 : ty 12 = some ⟨.int .u64, 1, 8, [(.int .u64 0)]⟩ := rfl
@[go_sem] theorem ty_21 : ty 21 = some ⟨.int .i32, 1, 4, [(.int .i32 0)]⟩ := rfl
@[go_sem] theorem ty_22 : ty 22 = some ⟨.slice 52, 1, 24, [(.slice none 0 0)]⟩ := rfl
@[go_sem] theorem ty_23 : ty 23 = some ⟨.struct [(0, 1, false), (1, 1, false)], 2, 32, [(.slice none 0 0), (.int .i64 0)]⟩ := rfl
@[go_sem] theorem ty_24 : ty 24 = some ⟨.struct [(0, 1, false), (1, 1, false)], 2, 32, [(.slice none 0 0), (.int .i64 0)]⟩ := rfl
@[go_sem] theorem ty_27 : ty 27 = some ⟨.int .i64, 1, 8, [(.int .i64 0)]⟩ := rfl
@[go_sem] theorem ty_29 : ty 29 = some ⟨.slice 5, 1, 24, [(.slice none 0 0)]⟩ := rfl
@[go_sem] theorem ty_36 : ty 36 = some ⟨.slice 3, 1, 24, [(.slice none 0 0)]⟩ := rfl
@[go_sem] theorem ty_39 : ty 39 = some ⟨.struct [(0, 1, false), (1, 1, false), (2, 1, false), (3, 1, false), (4, 1, false), (5, 1, false)], 6, 56, [(.string ⟨#[]⟩), (.int .i64 0), (.int .i64 0), (.int .i64 0), (.int .i64 0), (.int .i64 0)]⟩ := rfl
@[go_sem] theorem ty_40 : ty 40 = some ⟨.struct [(0, 1, false), (1, 1, false), (2, 1, false), (3, 1, false), (4, 1, false), (5, 1, false)], 6, 56, [(.string ⟨#[]⟩), (.int .i64 0), (.int .i64 0), (.int .i64 0), (.int .i64 0), (.int .i64 0)]⟩ := rfl
@[go_sem] theorem ty_41 : ty 41 = some ⟨.struct [(0, 1, false), (1, 1, false)], 2, 16, [(.int .i64 0), (.int .i64 0)]⟩ := rfl
@[go_sem] theorem ty_42 : ty 42 = some ⟨.struct [(0, 1, false), (1, 1, false)], 2, 16, [(.int .i64 0), (.int .i64 0)]⟩ := rfl
@[go_sem] theorem ty_43 : ty 43 = some ⟨.struct [(0, 1, false), (1, 1, false), (2, 1, false), (3, 1, false), (4, 1, false), (5, 1, false), (6, 1, false), (7, 2, true)], 9, 88, [(.string ⟨#[]⟩), (.string ⟨#[]⟩), (.int .i64 0), (.int .i64 0), (.int .i64 0), (.int .i64 0), (.int .i64 0), (.int .i64 0), (.int .i64 0)]⟩ := rfl
@[go_sem] theorem ty_44 : ty 44 = some ⟨.struct [(0, 1, false), (1, 1, false), (2, 1, false), (3, 1, false), (4, 1, false), (5, 1, false), (6, 1, false), (7, 2, true)], 9, 88, [(.string ⟨#[]⟩), (.string ⟨#[]⟩), (.int .i64 0), (.int .i64 0), (.int .i64 0), (.int .i64 0), (.int .i64 0), (.int .i64 0), (.int .i64 0)]⟩ := rfl
@[go_sem] theorem ty_47 : ty 47 = some ⟨.slice 9, 1, 24, [(.slice none 0 0)]⟩ := rfl
@[go_sem] theorem ty_51 : ty 51 = some ⟨.struct [(0, 1, false), (1, 1, false), (2, 1, false), (3, 1, false), (4, 1, false)], 5, 48, [(.string ⟨#[]⟩), (.int .i64 0), (.int .i64 0), (.int .i64 0), (.int .i64 0)]⟩ := rfl
@[go_sem] theorem ty_52 : ty 52 = some ⟨.struct [(0, 1, false), (1, 1, false), (2, 1, false), (3, 1, false), (4, 1, false)], 5, 48, [(.string ⟨#[]⟩), (.int .i64 0), (.int .i64 0), (.int .i64 0), (.int .i64 0)]⟩ := rfl
@[go_sem] theorem ty_61 : ty 61 = some ⟨.int .u64, 1, 8, [(.int .u64 0)]⟩ := rfl
@[go_sem] theorem ty_63 : ty 63 = some ⟨.one, 1, 8, [(.pointer none)]⟩ := rfl
@[go_sem] theorem ty_64 : ty 64 = some ⟨.struct [(0, 1, false), (1, 1, false), (2, 1, false)], 3, 40, [(.slice none 0 0), (.int .i64 0), (.bool false)]⟩ := rfl
@[go_sem] theorem ty_65 : ty 65 = some ⟨.struct [(0, 1, false), (1, 1, false), (2, 1, false)], 3, 40, [(.slice none 0 0), (.int .i64 0), (.bool false)]⟩ := rfl
@[go_sem] theorem ty_71 : ty 71 = some ⟨.one, 1, 8, [(.pointer none)]⟩ := rfl
@[go_sem] theorem ty_72 : ty 72 = some ⟨.one, 1, 8, [.nilFunc]⟩ := rfl
@[go_sem] theorem ty_83 : ty 83 = some ⟨.struct [(0, 1, false), (1, 1, false)], 2, 32, [(.slice none 0 0), (.int .i64 0)]⟩ := rfl
@[go_sem] theorem ty_84 : ty 84 = some ⟨.struct [(0, 1, false), (1, 1, false)], 2, 32, [(.slice none 0 0), (.int .i64 0)]⟩ := rfl
@[go_sem] theorem ty_91 : ty 91 = some ⟨.slice 93, 1, 24, [(.slice none 0 0)]⟩ := rfl
@[go_sem] theorem ty_92 : ty 92 = some ⟨.struct [(0, 1, false), (1, 1, false), (2, 1, false)], 3, 56, [(.int .i64 0), (.slice none 0 0), (.slice none 0 0)]⟩ := rfl
@[go_sem] theorem ty_93 : ty 93 = some ⟨.struct [(0, 1, false), (1, 1, false), (2, 1, false)], 3, 56, [(.int .i64 0), (.slice none 0 0), (.slice none 0 0)]⟩ := rfl
@[go_sem] theorem ty_104 : ty 104 = some ⟨.slice 108, 1, 24, [(.slice none 0 0)]⟩ := rfl
@[go_sem] theorem ty_108 : ty 108 = some ⟨.int .u32, 1, 4, [(.int .u32 0)]⟩ := rfl
@[go_sem] theorem ty_111 : ty 111 = some ⟨.int .u64, 1, 8, [(.int .u64 0)]⟩ := rfl
@[go_sem] theorem ty_112 : ty 112 = some ⟨.array 64 108, 64, 256, [(.int .u32 0), (.int .u32 0), (.int .u32 0), (.int .u32 0), (.int .u32 0), (.int .u32 0), (.int .u32 0), (.int .u32 0), (.int .u32 0), (.int .u32 0), (.int .u32 0), (.int .u32 0), (.int .u32 0), (.int .u32 0), (.int .u32 0), (.int .u32 0), (.int .u32 0), (.int .u32 0), (.int .u32 0), (.int .u32 0), (.int .u32 0), (.int .u32 0), (.int .u32 0), (.int .u32 0), (.int .u32 0), (.int .u32 0), (.int .u32 0), (.int .u32 0), (.int .u32 0), (.int .u32 0), (.int .u32 0), (.int .u32 0), (.int .u32 0), (.int .u32 0), (.int .u32 0), (.int .u32 0), (.int .u32 0), (.int .u32 0), (.int .u32 0), (.int .u32 0), (.int .u32 0), (.int .u32 0), (.int .u32 0), (.int .u32 0), (.int .u32 0), (.int .u32 0), (.int .u32 0), (.int .u32 0), (.int .u32 0), (.int .u32 0), (.int .u32 0), (.int .u32 0), (.int .u32 0), (.int .u32 0), (.int .u32 0), (.int .u32 0), (.int .u32 0), (.int .u32 0), (.int .u32 0), (.int .u32 0), (.int .u32 0), (.int .u32 0), (.int .u32 0), (.int .u32 0)]⟩ := rfl
end Go.Proofs.YtgmmdijmlnehlaaDoor
