import Derived.Test.YtloihfflblgioaaProg
import Derived.Test.YtloihfflblgioaaAbsAB
namespace Go.Proofs.Ytloihfflblgioaa
open Go.TravelAbs
def tyL : List (Nat × TI) := [
  (2, ⟨.int .i64, 1, 8, [(.int .i64 0)]⟩),
  (3, ⟨.int .i64, 1, 8, [(.int .i64 0)]⟩),
  (4, ⟨.bool, 1, 1, [(.bool false)]⟩),
  (5, ⟨.int .u8, 1, 1, [(.int .u8 0)]⟩),
  (9, ⟨.str, 1, 16, [(.string ⟨#[]⟩)]⟩),
  (12, ⟨.int .u64, 1, 8, [(.int .u64 0)]⟩),
  (21, ⟨.int .i32, 1, 4, [(.int .i32 0)]⟩),
  (22, ⟨.slice 37, 1, 24, [(.slice none 0 0)]⟩),
  (23, ⟨.slice 52, 1, 24, [(.slice none 0 0)]⟩),
  (24, ⟨.int .i64, 1, 8, [(.int .i64 0)]⟩),
  (35, ⟨.slice 5, 1, 24, [(.slice none 0 0)]⟩),
  (36, ⟨.struct [(0, 1, false), (1, 1, false), (2, 1, false), (3, 1, false), (4, 1, false), (5, 1, false), (6, 1, false)], 7, 72, [(.int .i64 0), (.int .i64 0), (.int .i64 0), (.int .i64 0), (.int .i64 0), (.int .i64 0), (.slice none 0 0)]⟩),
  (37, ⟨.struct [(0, 1, false), (1, 1, false), (2, 1, false), (3, 1, false), (4, 1, false), (5, 1, false), (6, 1, false)], 7, 72, [(.int .i64 0), (.int .i64 0), (.int .i64 0), (.int .i64 0), (.int .i64 0), (.int .i64 0), (.slice none 0 0)]⟩),
  (39, ⟨.slice 3, 1, 24, [(.slice none 0 0)]⟩),
  (43, ⟨.one, 1, 8, [(.pointer none)]⟩),
  (44, ⟨.one, 1, 8, [.nilFunc]⟩),
  (51, ⟨.struct [(0, 1, false), (1, 1, false), (2, 1, false)], 3, 56, [(.int .i64 0), (.slice none 0 0), (.slice none 0 0)]⟩),
  (52, ⟨.struct [(0, 1, false), (1, 1, false), (2, 1, false)], 3, 56, [(.int .i64 0), (.slice none 0 0), (.slice none 0 0)]⟩),
  (60, ⟨.array 6 3, 6, 48, [(.int .i64 0), (.int .i64 0), (.int .i64 0), (.int .i64 0), (.int .i64 0), (.int .i64 0)]⟩),
  (65, ⟨.struct [(0, 1, false), (1, 1, false)], 2, 32, [(.slice none 0 0), (.int .i64 0)]⟩),
  (66, ⟨.struct [(0, 1, false), (1, 1, false)], 2, 32, [(.slice none 0 0), (.int .i64 0)]⟩),
  (69, ⟨.struct [(0, 1, false), (1, 1, false)], 2, 16, [(.int .i64 0), (.int .i64 0)]⟩),
  (70, ⟨.struct [(0, 1, false), (1, 1, false)], 2, 16, [(.int .i64 0), (.int .i64 0)]⟩),
  (71, ⟨.slice 70, 1, 24, [(.slice none 0 0)]⟩),
  (77, ⟨.int .u64, 1, 8, [(.int .u64 0)]⟩),
  (85, ⟨.int .u32, 1, 4, [(.int .u32 0)]⟩)]
def tyE : List (Nat × List EK) := [(69, [.int, .int]), (70, [.int, .int])]
def ty : Ty := tyOf tyL tyE
theorem ty_ok : TysOK Try.prog ty := tysOK (by kernel_rfl) (by kernel_rfl)
@[go_sem] theorem tyq_69 : ty.eq 69 = some [.int, .int] := rfl
@[go_sem] theorem tyq_70 : ty.eq 70 = some [.int, .int] := rfl
@[go_sem] theorem ty_2 : ty 2 = some ⟨.int .i64, 1, 8, [(.int .i64 0)]⟩ := rfl
@[go_sem] theorem ty_3 : ty 3 = some ⟨.int .i64, 1, 8, [(.int .i64 0)]⟩ := rfl
@[go_sem] theorem ty_4 : ty 4 = some ⟨.bool, 1, 1, [(.bool false)]⟩ := rfl
@[go_sem] theorem ty_5 : ty 5 = some ⟨.int .u8, 1, 1, [(.int .u8 0)]⟩ := rfl
@[go_sem] theorem ty_9 : ty 9 = some ⟨.str, 1, 16, [(.string ⟨#[]⟩)]⟩ := rfl
@[go_sem] theorem ty_12 : ty 12 = some ⟨.int .u64, 1, 8, [(.int .u64 0)]⟩ := rfl
@[go_sem] theorem ty_21 : ty 21 = some ⟨.int .i32, 1, 4, [(.int .i32 0)]⟩ := rfl
@[go_sem] theorem ty_22 : ty 22 = some ⟨.slice 37, 1, 24, [(.slice none 0 0)]⟩ := rfl
@[go_sem] theorem ty_23 : ty 23 = some ⟨.slice 52, 1, 24, [(.slice none 0 0)]⟩ := rfl
@[go_sem] theorem ty_24 : ty 24 = some ⟨.int .i64, 1, 8, [(.int .i64 0)]⟩ := rfl
@[go_sem] theorem ty_35 : ty 35 = some ⟨.slice 5, 1, 24, [(.slice none 0 0)]⟩ := rfl
@[go_sem] theorem ty_36 : ty 36 = some ⟨.struct [(0, 1, false), (1, 1, false), (2, 1, false), (3, 1, false), (4, 1, false), (5, 1, false), (6, 1, false)], 7, 72, [(.int .i64 0), (.int .i64 0), (.int .i64 0), (.int .i64 0), (.int .i64 0), (.int .i64 0), (.slice none 0 0)]⟩ := rfl
@[go_sem] theorem ty_37 : ty 37 = some ⟨.struct [(0, 1, false), (1, 1, false), (2, 1, false), (3, 1, false), (4, 1, false), (5, 1, false), (6, 1, false)], 7, 72, [(.int .i64 0), (.int .i64 0), (.int .i64 0), (.int .i64 0), (.int .i64 0), (.int .i64 0), (.slice none 0 0)]⟩ := rfl
@[go_sem] theorem ty_39 : ty 39 = some ⟨.slice 3, 1, 24, [(.slice none 0 0)]⟩ := rfl
@[go_sem] theorem ty_43 : ty 43 = some ⟨.one, 1, 8, [(.pointer none)]⟩ := rfl
@[go_sem] theorem ty_44 : ty 44 = some ⟨.one, 1, 8, [.nilFunc]⟩ := rfl
@[go_sem] theorem ty_51 : ty 51 = some ⟨.struct [(0, 1, false), (1, 1, false), (2, 1, false)], 3, 56, [(.int .i64 0), (.slice none 0 0), (.slice none 0 0)]⟩ := rfl
@[go_sem] theorem ty_52 : ty 52 = some ⟨.struct [(0, 1, false), (1, 1, false), (2, 1, false)], 3, 56, [(.int .i64 0), (.slice none 0 0), (.slice none 0 0)]⟩ := rfl
@[go_sem] theorem ty_60 : ty 60 = some ⟨.array 6 3, 6, 48, [(.int .i64 0), (.int .i64 0), (.int .i64 0), (.int .i64 0), (.int .i64 0), (.int .i64 0)]⟩ := rfl
@[go_sem] theorem ty_65 : ty 65 = some ⟨.struct [(0, 1, false), (1, 1, false)], 2, 32, [(.slice none 0 0), (.int .i64 0)]⟩ := rfl
@[go_sem] theorem ty_66 : ty 66 = some ⟨.struct [(0, 1, false), (1, 1, false)], 2, 32, [(.slice none 0 0), (.int .i64 0)]⟩ := rfl
@[go_sem] theorem ty_69 : ty 69 = some ⟨.struct [(0, 1, false), (1, 1, false)], 2, 16, [(.int .i64 0), (.int .i64 0)]⟩ := rfl
@[go_sem] theorem ty_70 : ty 70 = some ⟨.struct [(0, 1, false), (1, 1, false)], 2, 16, [(.int .i64 0), (.int .i64 0)]⟩ := rfl
@[go_sem] theorem ty_71 : ty 71 = some ⟨.slice 70, 1, 24, [(.slice none 0 0)]⟩ := rfl
@[go_sem] theorem ty_77 : ty 77 = some ⟨.int .u64, 1, 8, [(.int .u64 0)]⟩ := rfl
@[go_sem] theorem ty_85 : ty 85 = some ⟨.int .u32, 1, 4, [(.int .u32 0)]⟩ := rfl
end Go.Proofs.Ytloihfflblgioaa
