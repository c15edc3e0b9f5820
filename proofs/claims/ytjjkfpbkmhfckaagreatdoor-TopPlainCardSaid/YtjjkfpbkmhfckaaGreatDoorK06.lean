import Derived.Test.YtjjkfpbkmhfckaaGreatDoorK00
import Derived.Test.YtjjkfpbkmhfckaaGreatDoorCards
import Derived.Test.YtjjkfpbkmhfckaaGreatDoorTie
import Derived.Test.YtjjkfpbkmhfckaaGreatDoorAbsAB
import Derived.WalkKit
import Derived.ProofKit
import Derived.Deep.DeepHandedRow
import Derived.Lib.LaidTab
import Derived.SevenTiedAt
import Derived.Test.YtjjkfpbkmhfckaaGreatDoorProg
import Derived.Deep.Fields
import Derived.SizedLaws
import Derived.Handy
import Derived.Lib.SliceRun
set_option linter.unusedVariables false
set_option linter.unusedSimpArgs false
set_option maxHeartbeats 1000000
set_option maxRecDepth 10000
namespace Go.Proofs.YtjjkfpbkmhfckaaGreatDoor
open Go.RowKit Go.TravelBase Go.TravelAbs Go.ChangeShapes Go.WideShapes Go.ChangeAt
def kTab:List Int:=[1116352408,1899447441,3049323471,3921009573,961987163,1508970993,2453635748,2870763221,3624381080,310598401,607225278,1426881987,1925078388,2162078206,2614888103,3248222580,3835390401,4022224774,264347078,604807628,770255983,1249150122,1555081692,1996064986,2554220882,2821834349,2952996808,3210313671,3336571891,3584528711,113926993,338241895,666307205,773529912,1294757372,1396182291,1695183700,1986661051,2177026350,2456956037,2730485921,2820302411,3259730800,3345764771,3516065817,3600352804,4094571909,275423344,430227734,506948616,659060556,883997877,958139571,1322822218,1537002063,1747873779,1955562222,2024104815,2227730452,2361852424,2428436474,2756734187,3204031479,3329325298]
def kRow:List (String × DataW Unit):=[("traveldoc/digest.constants",Rows.laid_traveldoc_digest_constants)]
theorem gKonst:Tryz.prog.globalNamed "traveldoc/digest.constants" = some 0:=by kernel_rfl
theorem gKonstT:(Tryz.prog.globals[0]?).map (·.type)=some 224:=by kernel_rfl
theorem cK:Tryz.prog.cellsOf 224=64:=by kernel_rfl
theorem cEn:Tryz.prog.cellsOf 182=1:=by kernel_rfl
theorem kTabIs {W:World} (h:laidMetH Tryz.prog kRow W):Lib.TabIs Tryz.prog W "traveldoc/digest.constants" .u32 kTab :=
  Lib.tabIs_of_head (rest:=[]) gKonst gKonstT Tryz.underlying224 Tryz.underlying182 cEn cK h
theorem gl_of {W:World} (h:laidMetH Tryz.prog kRow W):GLw W (fun b _=>b<W.heap.size):=fun g=>by
  have hc:=fun i hi=>(kTabIs h).cell gKonst i hi;by_cases hg:g=0
  · subst hg;have e:glA 0 = .ep (.agg (kTab.map fun z=>.lit (.int .u32 z))) 0:=rfl;rw [e];have hl:(AV.agg (kTab.map fun z=>.lit (.int .u32 z))).cl=kTab.map fun z=>.lit (.int .u32 z):=rfl;refine VR.ep (o:=0) (fun j=>.int .u32 (kTab.getD j 0)) (fun j hj=>?_) (fun j y hy=>?_)
    · rw [hl,List.length_map] at hj;have:=hc j hj;rw [Nat.zero_add];exact ⟨World.block_lt_of_cell? W _ this,this⟩
    · rw [hl,List.getElem?_map] at hy;obtain ⟨z,h1,rfl⟩:=Option.map_eq_some_iff.1 hy;have e2:kTab.getD j 0=z:=by simp [List.getD,h1]
      simp only [e2];exact .lit _
  · have e:glA g = .any:=by
      have:¬ (0 == g)=true:=by simpa using fun q=>hg q.symm
      unfold glA glL;rw [List.find?_cons_of_neg (by simpa using fun q=>hg q.symm)];rfl
    rw [e];exact VR.any _
noncomputable def laidWorld (os:Os):World :=
  { World.holding Tryz.prog os ⟨#[],#[],[]⟩ with heap:=(World.holding Tryz.prog os ⟨#[],#[],[]⟩).heap.modify 0 fun
      | .cells _ t frozen=>.cells (kTab.map fun z=>Value.int .u32 z).toArray t frozen
      | o=>o }
end Go.Proofs.YtjjkfpbkmhfckaaGreatDoor
namespace Go.Proofs.YtjjkfpbkmhfckaaGreatDoor
open Go.TravelAbs
def tyL:List (Nat × TI):=[
  (3,⟨.int .i64,1,8,[(.int .i64 0)]⟩),
  (4,⟨.bool,1,1,[(.bool false)]⟩),
  (5,⟨.int .u8,1,1,[(.int .u8 0)]⟩),
  (9,⟨.str,1,16,[(.string ⟨#[]⟩)]⟩),
  (22,⟨.slice 3,1,24,[(.slice none 0 0)]⟩),
  (23,⟨.slice 5,1,24,[(.slice none 0 0)]⟩),
  (25,⟨.struct [(0,1,false),(1,1,false),(2,1,false),(3,1,false),(4,1,false),(5,1,false)],6,64,[(.int .i64 0),(.int .i64 0),(.int .i64 0),(.int .i64 0),(.slice none 0 0),(.int .i64 0)]⟩),
  (28,⟨.one,1,8,[(.pointer none)]⟩),
  (30,⟨.slice 80,1,24,[(.slice none 0 0)]⟩),
  (31,⟨.slice 82,1,24,[(.slice none 0 0)]⟩),
  (33,⟨.struct [(0,1,false),(1,1,false)],2,48,[(.slice none 0 0),(.slice none 0 0)]⟩),
  (34,⟨.slice 89,1,24,[(.slice none 0 0)]⟩),
  (35,⟨.slice 91,1,24,[(.slice none 0 0)]⟩),
  (37,⟨.struct [(0,1,false),(1,1,false)],2,32,[(.slice none 0 0),(.int .i64 0)]⟩),
  (39,⟨.struct [(0,2,true),(2,1,false),(3,1,false),(4,1,false),(5,1,false),(6,1,false),(7,1,false),(8,1,false),(9,1,false),(10,1,false),(11,1,false),(12,2,true),(14,1,false),(15,1,false)],16,280,[(.slice none 0 0),(.slice none 0 0),(.string ⟨#[]⟩),(.slice none 0 0),(.slice none 0 0),(.slice none 0 0),(.int .i64 0),(.int .i64 0),(.bool false),(.slice none 0 0),(.int .i64 0),(.int .i64 0),(.slice none 0 0),(.int .i64 0),(.slice none 0 0),(.slice none 0 0)]⟩),
  (41,⟨.one,1,8,[(.pointer none)]⟩),
  (47,⟨.array 2 23,2,48,[(.slice none 0 0),(.slice none 0 0)]⟩),
  (49,⟨.struct [(0,2,true)],2,48,[(.slice none 0 0),(.slice none 0 0)]⟩),
  (51,⟨.struct [(0,1,false),(1,1,false)],2,16,[(.int .i64 0),(.int .i64 0)]⟩),
  (53,⟨.struct [(0,1,false),(1,1,false),(2,1,false),(3,1,false),(4,1,false)],5,24,[(.int .i64 0),(.bool false),(.bool false),(.bool false),(.int .i64 0)]⟩),
  (55,⟨.struct [(0,1,false),(1,1,false),(2,1,false)],3,56,[(.slice none 0 0),(.slice none 0 0),(.int .i64 0)]⟩),
  (57,⟨.struct [(0,1,false),(1,1,false)],2,32,[(.int .i64 0),(.slice none 0 0)]⟩),
  (59,⟨.struct [(0,2,true),(2,1,false),(3,1,false),(4,1,false),(5,1,false),(6,1,false),(7,1,false),(8,1,false),(9,3,true)],12,160,[(.int .i64 0),(.slice none 0 0),(.int .i64 0),(.int .i64 0),(.slice none 0 0),(.int .i64 0),(.int .i64 0),(.int .i64 0),(.int .i64 0),(.slice none 0 0),(.slice none 0 0),(.int .i64 0)]⟩),
  (61,⟨.struct [(0,1,false),(1,1,false),(2,1,false),(3,1,false),(4,1,false),(5,1,false)],6,56,[(.string ⟨#[]⟩),(.int .i64 0),(.int .i64 0),(.int .i64 0),(.int .i64 0),(.int .i64 0)]⟩),
  (63,⟨.struct [(0,16,true),(16,2,true),(18,1,false),(19,1,false),(20,2,true),(22,5,true),(27,1,false),(28,3,true),(31,1,false),(32,1,false),(33,12,true),(45,1,false),(46,6,true),(52,1,false),(53,1,false),(54,6,true)],60,816,[(.slice none 0 0),(.slice none 0 0),(.string ⟨#[]⟩),(.slice none 0 0),(.slice none 0 0),(.slice none 0 0),(.int .i64 0),(.int .i64 0),(.bool false),(.slice none 0 0),(.int .i64 0),(.int .i64 0),(.slice none 0 0),(.int .i64 0),(.slice none 0 0),(.slice none 0 0),(.slice none 0 0),(.slice none 0 0),(.slice none 0 0),(.bool false),(.int .i64 0),(.int .i64 0),(.int .i64 0),(.bool false),(.bool false),(.bool false),(.int .i64 0),(.bool false),(.slice none 0 0),(.slice none 0 0),(.int .i64 0),(.int .i64 0),(.int .i64 0),(.int .i64 0),(.slice none 0 0),(.int .i64 0),(.int .i64 0),(.slice none 0 0),(.int .i64 0),(.int .i64 0),(.int .i64 0),(.int .i64 0),(.slice none 0 0),(.slice none 0 0),(.int .i64 0),(.slice none 0 0),(.string ⟨#[]⟩),(.int .i64 0),(.int .i64 0),(.int .i64 0),(.int .i64 0),(.int .i64 0),(.slice none 0 0),(.bool false),(.int .i64 0),(.int .i64 0),(.int .i64 0),(.int .i64 0),(.slice none 0 0),(.int .i64 0)]⟩),
  (65,⟨.struct [(0,1,false),(1,1,false)],2,32,[(.slice none 0 0),(.int .i64 0)]⟩),
  (69,⟨.struct [(0,60,true),(60,3,true),(63,1,false)],64,880,[(.slice none 0 0),(.slice none 0 0),(.string ⟨#[]⟩),(.slice none 0 0),(.slice none 0 0),(.slice none 0 0),(.int .i64 0),(.int .i64 0),(.bool false),(.slice none 0 0),(.int .i64 0),(.int .i64 0),(.slice none 0 0),(.int .i64 0),(.slice none 0 0),(.slice none 0 0),(.slice none 0 0),(.slice none 0 0),(.slice none 0 0),(.bool false),(.int .i64 0),(.int .i64 0),(.int .i64 0),(.bool false),(.bool false),(.bool false),(.int .i64 0),(.bool false),(.slice none 0 0),(.slice none 0 0),(.int .i64 0),(.int .i64 0),(.int .i64 0),(.int .i64 0),(.slice none 0 0),(.int .i64 0),(.int .i64 0),(.slice none 0 0),(.int .i64 0),(.int .i64 0),(.int .i64 0),(.int .i64 0),(.slice none 0 0),(.slice none 0 0),(.int .i64 0),(.slice none 0 0),(.string ⟨#[]⟩),(.int .i64 0),(.int .i64 0),(.int .i64 0),(.int .i64 0),(.int .i64 0),(.slice none 0 0),(.bool false),(.int .i64 0),(.int .i64 0),(.int .i64 0),(.int .i64 0),(.slice none 0 0),(.int .i64 0),(.slice none 0 0),(.slice none 0 0),(.int .i64 0),(.bool false)]⟩),
  (70,⟨.int .i64,1,8,[(.int .i64 0)]⟩),
  (78,⟨.struct [(0,1,false),(1,1,false)],2,16,[(.int .i64 0),(.int .i64 0)]⟩),
  (80,⟨.struct [(0,1,false),(1,1,false),(2,1,false),(3,2,true)],5,56,[(.int .i64 0),(.int .i64 0),(.slice none 0 0),(.int .i64 0),(.int .i64 0)]⟩),
  (82,⟨.struct [(0,1,false),(1,1,false)],2,48,[(.slice none 0 0),(.slice none 0 0)]⟩),
  (84,⟨.struct [(0,1,false),(1,1,false)],2,32,[(.slice none 0 0),(.int .i64 0)]⟩),
  (89,⟨.struct [(0,1,false),(1,1,false),(2,1,false),(3,1,false),(4,1,false)],5,40,[(.int .i64 0),(.int .i64 0),(.int .i64 0),(.int .i64 0),(.int .i64 0)]⟩),
  (91,⟨.struct [(0,1,false),(1,1,false),(2,1,false),(3,1,false),(4,1,false)],5,48,[(.string ⟨#[]⟩),(.int .i64 0),(.int .i64 0),(.int .i64 0),(.int .i64 0)]⟩),
  (104,⟨.struct [(0,1,false),(1,1,false),(2,1,false),(3,2,true)],5,72,[(.int .i64 0),(.int .i64 0),(.slice none 0 0),(.slice none 0 0),(.int .i64 0)]⟩),
  (109,⟨.struct [(0,60,true),(60,5,true),(65,1,false),(66,1,false),(67,1,false),(68,1,false),(69,1,false)],70,936,[(.slice none 0 0),(.slice none 0 0),(.string ⟨#[]⟩),(.slice none 0 0),(.slice none 0 0),(.slice none 0 0),(.int .i64 0),(.int .i64 0),(.bool false),(.slice none 0 0),(.int .i64 0),(.int .i64 0),(.slice none 0 0),(.int .i64 0),(.slice none 0 0),(.slice none 0 0),(.slice none 0 0),(.slice none 0 0),(.slice none 0 0),(.bool false),(.int .i64 0),(.int .i64 0),(.int .i64 0),(.bool false),(.bool false),(.bool false),(.int .i64 0),(.bool false),(.slice none 0 0),(.slice none 0 0),(.int .i64 0),(.int .i64 0),(.int .i64 0),(.int .i64 0),(.slice none 0 0),(.int .i64 0),(.int .i64 0),(.slice none 0 0),(.int .i64 0),(.int .i64 0),(.int .i64 0),(.int .i64 0),(.slice none 0 0),(.slice none 0 0),(.int .i64 0),(.slice none 0 0),(.string ⟨#[]⟩),(.int .i64 0),(.int .i64 0),(.int .i64 0),(.int .i64 0),(.int .i64 0),(.slice none 0 0),(.bool false),(.int .i64 0),(.int .i64 0),(.int .i64 0),(.int .i64 0),(.slice none 0 0),(.int .i64 0),(.int .i64 0),(.int .i64 0),(.slice none 0 0),(.slice none 0 0),(.int .i64 0),(.int .i64 0),(.int .i64 0),(.bool false),(.bool false),(.slice none 0 0)]⟩),
  (113,⟨.struct [(0,3,true),(3,1,false)],4,80,[(.slice none 0 0),(.slice none 0 0),(.int .i64 0),(.slice none 0 0)]⟩),
  (115,⟨.slice 119,1,24,[(.slice none 0 0)]⟩),
  (119,⟨.struct [(0,1,false),(1,1,false),(2,1,false)],3,56,[(.int .i64 0),(.slice none 0 0),(.slice none 0 0)]⟩),
  (122,⟨.int .u64,1,8,[(.int .u64 0)]⟩),
  (144,⟨.one,1,8,[(.pointer none)]⟩),
  (145,⟨.slice 144,1,24,[(.slice none 0 0)]⟩),
  (153,⟨.array 2 3,2,16,[(.int .i64 0),(.int .i64 0)]⟩),
  (168,⟨.struct [(0,1,false),(1,1,false),(2,1,false),(3,1,false)],4,32,[(.int .i64 0),(.int .i64 0),(.int .i64 0),(.bool false)]⟩),
  (169,⟨.slice 168,1,24,[(.slice none 0 0)]⟩),
  (170,⟨.slice 23,1,24,[(.slice none 0 0)]⟩),
  (175,⟨.slice 182,1,24,[(.slice none 0 0)]⟩),
  (182,⟨.int .u32,1,4,[(.int .u32 0)]⟩),
  (184,⟨.one,1,8,[.nilFunc]⟩),
  (192,⟨.struct [(0,1,false),(1,1,false)],2,32,[(.int .i64 0),(.slice none 0 0)]⟩),
  (201,⟨.one,1,8,[(.pointer none)]⟩),
  (221,⟨.int .u64,1,8,[(.int .u64 0)]⟩),
  (224,⟨.array 64 182,64,256,List.replicate 64 (.int .u32 0)⟩),
  (226,⟨.array 8 182,8,32,[(.int .u32 0),(.int .u32 0),(.int .u32 0),(.int .u32 0),(.int .u32 0),(.int .u32 0),(.int .u32 0),(.int .u32 0)]⟩),
  (231,⟨.one,1,8,[(.pointer none)]⟩),
  (233,⟨.struct [(0,1,false),(1,1,false),(2,1,false)],3,40,[(.slice none 0 0),(.int .i64 0),(.bool false)]⟩),
  (235,⟨.one,1,8,[(.pointer none)]⟩),
  (238,⟨.array 16 5,16,16,[(.int .u8 0),(.int .u8 0),(.int .u8 0),(.int .u8 0),(.int .u8 0),(.int .u8 0),(.int .u8 0),(.int .u8 0),(.int .u8 0),(.int .u8 0),(.int .u8 0),(.int .u8 0),(.int .u8 0),(.int .u8 0),(.int .u8 0),(.int .u8 0)]⟩),
  (239,⟨.array 11 238,176,176,List.replicate 176 (.int .u8 0)⟩),
  (242,⟨.struct [(0,1,false),(1,176,true)],177,184,[(.pointer none)]++List.replicate 176 (.int .u8 0)⟩),
  (245,⟨.one,1,8,[(.pointer none)]⟩),
  (246,⟨.array 256 5,256,256,List.replicate 256 (.int .u8 0)⟩),
  (248,⟨.struct [(0,256,true),(256,256,true)],512,512,List.replicate 512 (.int .u8 0)⟩),
  (251,⟨.array 4 5,4,4,[(.int .u8 0),(.int .u8 0),(.int .u8 0),(.int .u8 0)]⟩),
  (262,⟨.struct [(0,1,false),(1,1,false),(2,1,false),(3,1,false)],4,48,[(.slice none 0 0),(.int .i64 0),(.bool false),(.int .i64 0)]⟩),
  (284,⟨.struct [(0,1,false),(1,1,false)],2,16,[(.int .i64 0),(.int .i64 0)]⟩),
  (286,⟨.struct [(0,1,false),(1,1,false),(2,1,false),(3,1,false),(4,1,false),(5,1,false),(6,1,false),(7,2,true)],9,88,[(.string ⟨#[]⟩),(.string ⟨#[]⟩),(.int .i64 0),(.int .i64 0),(.int .i64 0),(.int .i64 0),(.int .i64 0),(.int .i64 0),(.int .i64 0)]⟩),
  (302,⟨.one,1,8,[(.pointer none)]⟩),
  (332,⟨.slice 363,1,24,[(.slice none 0 0)]⟩),
  (363,⟨.struct [(0,1,false),(1,1,false),(2,1,false)],3,40,[(.int .i64 0),(.int .i64 0),(.slice none 0 0)]⟩)]
def tyE:List (Nat × List EK):=[(51,[.int,.int]),(53,[.int,.bool,.bool,.bool,.int]),(61,[.str,.int,.int,.int,.int,.int]),(78,[.int,.int]),(89,[.int,.int,.int,.int,.int]),(91,[.str,.int,.int,.int,.int]),(168,[.int,.int,.int,.bool]),(284,[.int,.int])]
def ty:Ty:=tyOf tyL tyE
theorem ty_ok:TysOK Tryz.prog ty:=tysOK (by kernel_rfl) (by kernel_rfl)
@[go_sem] theorem tyq_51:ty.eq 51=some [.int,.int]:=rfl
@[go_sem] theorem tyq_53:ty.eq 53=some [.int,.bool,.bool,.bool,.int]:=rfl
@[go_sem] theorem tyq_61:ty.eq 61=some [.str,.int,.int,.int,.int,.int]:=rfl
@[go_sem] theorem tyq_78:ty.eq 78=some [.int,.int]:=rfl
@[go_sem] theorem tyq_89:ty.eq 89=some [.int,.int,.int,.int,.int]:=rfl
@[go_sem] theorem tyq_91:ty.eq 91=some [.str,.int,.int,.int,.int]:=rfl
@[go_sem] theorem tyq_168:ty.eq 168=some [.int,.int,.int,.bool]:=rfl
@[go_sem] theorem tyq_284:ty.eq 284=some [.int,.int]:=rfl
@[go_sem] theorem ty_3:ty 3=some ⟨.int .i64,1,8,[(.int .i64 0)]⟩:=rfl
@[go_sem] theorem ty_4:ty 4=some ⟨.bool,1,1,[(.bool false)]⟩:=rfl
@[go_sem] theorem ty_5:ty 5=some ⟨.int .u8,1,1,[(.int .u8 0)]⟩:=rfl
@[go_sem] theorem ty_9:ty 9=some ⟨.str,1,16,[(.string ⟨#[]⟩)]⟩:=rfl
@[go_sem] theorem ty_22:ty 22=some ⟨.slice 3,1,24,[(.slice none 0 0)]⟩:=rfl
@[go_sem] theorem ty_23:ty 23=some ⟨.slice 5,1,24,[(.slice none 0 0)]⟩:=rfl
@[go_sem] theorem ty_25:ty 25=some ⟨.struct [(0,1,false),(1,1,false),(2,1,false),(3,1,false),(4,1,false),(5,1,false)],6,64,[(.int .i64 0),(.int .i64 0),(.int .i64 0),(.int .i64 0),(.slice none 0 0),(.int .i64 0)]⟩:=rfl
@[go_sem] theorem ty_28:ty 28=some ⟨.one,1,8,[(.pointer none)]⟩:=rfl
@[go_sem] theorem ty_30:ty 30=some ⟨.slice 80,1,24,[(.slice none 0 0)]⟩:=rfl
@[go_sem] theorem ty_31:ty 31=some ⟨.slice 82,1,24,[(.slice none 0 0)]⟩:=rfl
@[go_sem] theorem ty_33:ty 33=some ⟨.struct [(0,1,false),(1,1,false)],2,48,[(.slice none 0 0),(.slice none 0 0)]⟩:=rfl
@[go_sem] theorem ty_34:ty 34=some ⟨.slice 89,1,24,[(.slice none 0 0)]⟩:=rfl
@[go_sem] theorem ty_35:ty 35=some ⟨.slice 91,1,24,[(.slice none 0 0)]⟩:=rfl
@[go_sem] theorem ty_37:ty 37=some ⟨.struct [(0,1,false),(1,1,false)],2,32,[(.slice none 0 0),(.int .i64 0)]⟩:=rfl
@[go_sem] theorem ty_39:ty 39=some ⟨.struct [(0,2,true),(2,1,false),(3,1,false),(4,1,false),(5,1,false),(6,1,false),(7,1,false),(8,1,false),(9,1,false),(10,1,false),(11,1,false),(12,2,true),(14,1,false),(15,1,false)],16,280,[(.slice none 0 0),(.slice none 0 0),(.string ⟨#[]⟩),(.slice none 0 0),(.slice none 0 0),(.slice none 0 0),(.int .i64 0),(.int .i64 0),(.bool false),(.slice none 0 0),(.int .i64 0),(.int .i64 0),(.slice none 0 0),(.int .i64 0),(.slice none 0 0),(.slice none 0 0)]⟩:=rfl
@[go_sem] theorem ty_41:ty 41=some ⟨.one,1,8,[(.pointer none)]⟩:=rfl
@[go_sem] theorem ty_47:ty 47=some ⟨.array 2 23,2,48,[(.slice none 0 0),(.slice none 0 0)]⟩:=rfl
@[go_sem] theorem ty_49:ty 49=some ⟨.struct [(0,2,true)],2,48,[(.slice none 0 0),(.slice none 0 0)]⟩:=rfl
@[go_sem] theorem ty_51:ty 51=some ⟨.struct [(0,1,false),(1,1,false)],2,16,[(.int .i64 0),(.int .i64 0)]⟩:=rfl
@[go_sem] theorem ty_53:ty 53=some ⟨.struct [(0,1,false),(1,1,false),(2,1,false),(3,1,false),(4,1,false)],5,24,[(.int .i64 0),(.bool false),(.bool false),(.bool false),(.int .i64 0)]⟩:=rfl
@[go_sem] theorem ty_55:ty 55=some ⟨.struct [(0,1,false),(1,1,false),(2,1,false)],3,56,[(.slice none 0 0),(.slice none 0 0),(.int .i64 0)]⟩:=rfl
@[go_sem] theorem ty_57:ty 57=some ⟨.struct [(0,1,false),(1,1,false)],2,32,[(.int .i64 0),(.slice none 0 0)]⟩:=rfl
@[go_sem] theorem ty_59:ty 59=some ⟨.struct [(0,2,true),(2,1,false),(3,1,false),(4,1,false),(5,1,false),(6,1,false),(7,1,false),(8,1,false),(9,3,true)],12,160,[(.int .i64 0),(.slice none 0 0),(.int .i64 0),(.int .i64 0),(.slice none 0 0),(.int .i64 0),(.int .i64 0),(.int .i64 0),(.int .i64 0),(.slice none 0 0),(.slice none 0 0),(.int .i64 0)]⟩:=rfl
@[go_sem] theorem ty_61:ty 61=some ⟨.struct [(0,1,false),(1,1,false),(2,1,false),(3,1,false),(4,1,false),(5,1,false)],6,56,[(.string ⟨#[]⟩),(.int .i64 0),(.int .i64 0),(.int .i64 0),(.int .i64 0),(.int .i64 0)]⟩:=rfl
@[go_sem] theorem ty_63:ty 63=some ⟨.struct [(0,16,true),(16,2,true),(18,1,false),(19,1,false),(20,2,true),(22,5,true),(27,1,false),(28,3,true),(31,1,false),(32,1,false),(33,12,true),(45,1,false),(46,6,true),(52,1,false),(53,1,false),(54,6,true)],60,816,[(.slice none 0 0),(.slice none 0 0),(.string ⟨#[]⟩),(.slice none 0 0),(.slice none 0 0),(.slice none 0 0),(.int .i64 0),(.int .i64 0),(.bool false),(.slice none 0 0),(.int .i64 0),(.int .i64 0),(.slice none 0 0),(.int .i64 0),(.slice none 0 0),(.slice none 0 0),(.slice none 0 0),(.slice none 0 0),(.slice none 0 0),(.bool false),(.int .i64 0),(.int .i64 0),(.int .i64 0),(.bool false),(.bool false),(.bool false),(.int .i64 0),(.bool false),(.slice none 0 0),(.slice none 0 0),(.int .i64 0),(.int .i64 0),(.int .i64 0),(.int .i64 0),(.slice none 0 0),(.int .i64 0),(.int .i64 0),(.slice none 0 0),(.int .i64 0),(.int .i64 0),(.int .i64 0),(.int .i64 0),(.slice none 0 0),(.slice none 0 0),(.int .i64 0),(.slice none 0 0),(.string ⟨#[]⟩),(.int .i64 0),(.int .i64 0),(.int .i64 0),(.int .i64 0),(.int .i64 0),(.slice none 0 0),(.bool false),(.int .i64 0),(.int .i64 0),(.int .i64 0),(.int .i64 0),(.slice none 0 0),(.int .i64 0)]⟩:=rfl
@[go_sem] theorem ty_65:ty 65=some ⟨.struct [(0,1,false),(1,1,false)],2,32,[(.slice none 0 0),(.int .i64 0)]⟩:=rfl
@[go_sem] theorem ty_69:ty 69=some ⟨.struct [(0,60,true),(60,3,true),(63,1,false)],64,880,[(.slice none 0 0),(.slice none 0 0),(.string ⟨#[]⟩),(.slice none 0 0),(.slice none 0 0),(.slice none 0 0),(.int .i64 0),(.int .i64 0),(.bool false),(.slice none 0 0),(.int .i64 0),(.int .i64 0),(.slice none 0 0),(.int .i64 0),(.slice none 0 0),(.slice none 0 0),(.slice none 0 0),(.slice none 0 0),(.slice none 0 0),(.bool false),(.int .i64 0),(.int .i64 0),(.int .i64 0),(.bool false),(.bool false),(.bool false),(.int .i64 0),(.bool false),(.slice none 0 0),(.slice none 0 0),(.int .i64 0),(.int .i64 0),(.int .i64 0),(.int .i64 0),(.slice none 0 0),(.int .i64 0),(.int .i64 0),(.slice none 0 0),(.int .i64 0),(.int .i64 0),(.int .i64 0),(.int .i64 0),(.slice none 0 0),(.slice none 0 0),(.int .i64 0),(.slice none 0 0),(.string ⟨#[]⟩),(.int .i64 0),(.int .i64 0),(.int .i64 0),(.int .i64 0),(.int .i64 0),(.slice none 0 0),(.bool false),(.int .i64 0),(.int .i64 0),(.int .i64 0),(.int .i64 0),(.slice none 0 0),(.int .i64 0),(.slice none 0 0),(.slice none 0 0),(.int .i64 0),(.bool false)]⟩:=rfl
@[go_sem] theorem ty_70:ty 70=some ⟨.int .i64,1,8,[(.int .i64 0)]⟩:=rfl
@[go_sem] theorem ty_78:ty 78=some ⟨.struct [(0,1,false),(1,1,false)],2,16,[(.int .i64 0),(.int .i64 0)]⟩:=rfl
@[go_sem] theorem ty_80:ty 80=some ⟨.struct [(0,1,false),(1,1,false),(2,1,false),(3,2,true)],5,56,[(.int .i64 0),(.int .i64 0),(.slice none 0 0),(.int .i64 0),(.int .i64 0)]⟩:=rfl
@[go_sem] theorem ty_82:ty 82=some ⟨.struct [(0,1,false),(1,1,false)],2,48,[(.slice none 0 0),(.slice none 0 0)]⟩:=rfl
@[go_sem] theorem ty_84:ty 84=some ⟨.struct [(0,1,false),(1,1,false)],2,32,[(.slice none 0 0),(.int .i64 0)]⟩:=rfl
@[go_sem] theorem ty_89:ty 89=some ⟨.struct [(0,1,false),(1,1,false),(2,1,false),(3,1,false),(4,1,false)],5,40,[(.int .i64 0),(.int .i64 0),(.int .i64 0),(.int .i64 0),(.int .i64 0)]⟩:=rfl
@[go_sem] theorem ty_91:ty 91=some ⟨.struct [(0,1,false),(1,1,false),(2,1,false),(3,1,false),(4,1,false)],5,48,[(.string ⟨#[]⟩),(.int .i64 0),(.int .i64 0),(.int .i64 0),(.int .i64 0)]⟩:=rfl
@[go_sem] theorem ty_104:ty 104=some ⟨.struct [(0,1,false),(1,1,false),(2,1,false),(3,2,true)],5,72,[(.int .i64 0),(.int .i64 0),(.slice none 0 0),(.slice none 0 0),(.int .i64 0)]⟩:=rfl
@[go_sem] theorem ty_109:ty 109=some ⟨.struct [(0,60,true),(60,5,true),(65,1,false),(66,1,false),(67,1,false),(68,1,false),(69,1,false)],70,936,[(.slice none 0 0),(.slice none 0 0),(.string ⟨#[]⟩),(.slice none 0 0),(.slice none 0 0),(.slice none 0 0),(.int .i64 0),(.int .i64 0),(.bool false),(.slice none 0 0),(.int .i64 0),(.int .i64 0),(.slice none 0 0),(.int .i64 0),(.slice none 0 0),(.slice none 0 0),(.slice none 0 0),(.slice none 0 0),(.slice none 0 0),(.bool false),(.int .i64 0),(.int .i64 0),(.int .i64 0),(.bool false),(.bool false),(.bool false),(.int .i64 0),(.bool false),(.slice none 0 0),(.slice none 0 0),(.int .i64 0),(.int .i64 0),(.int .i64 0),(.int .i64 0),(.slice none 0 0),(.int .i64 0),(.int .i64 0),(.slice none 0 0),(.int .i64 0),(.int .i64 0),(.int .i64 0),(.int .i64 0),(.slice none 0 0),(.slice none 0 0),(.int .i64 0),(.slice none 0 0),(.string ⟨#[]⟩),(.int .i64 0),(.int .i64 0),(.int .i64 0),(.int .i64 0),(.int .i64 0),(.slice none 0 0),(.bool false),(.int .i64 0),(.int .i64 0),(.int .i64 0),(.int .i64 0),(.slice none 0 0),(.int .i64 0),(.int .i64 0),(.int .i64 0),(.slice none 0 0),(.slice none 0 0),(.int .i64 0),(.int .i64 0),(.int .i64 0),(.bool false),(.bool false),(.slice none 0 0)]⟩:=rfl
@[go_sem] theorem ty_113:ty 113=some ⟨.struct [(0,3,true),(3,1,false)],4,80,[(.slice none 0 0),(.slice none 0 0),(.int .i64 0),(.slice none 0 0)]⟩:=rfl
@[go_sem] theorem ty_115:ty 115=some ⟨.slice 119,1,24,[(.slice none 0 0)]⟩:=rfl
@[go_sem] theorem ty_119:ty 119=some ⟨.struct [(0,1,false),(1,1,false),(2,1,false)],3,56,[(.int .i64 0),(.slice none 0 0),(.slice none 0 0)]⟩:=rfl
@[go_sem] theorem ty_122:ty 122=some ⟨.int .u64,1,8,[(.int .u64 0)]⟩:=rfl
@[go_sem] theorem ty_144:ty 144=some ⟨.one,1,8,[(.pointer none)]⟩:=rfl
@[go_sem] theorem ty_145:ty 145=some ⟨.slice 144,1,24,[(.slice none 0 0)]⟩:=rfl
@[go_sem] theorem ty_153:ty 153=some ⟨.array 2 3,2,16,[(.int .i64 0),(.int .i64 0)]⟩:=rfl
@[go_sem] theorem ty_168:ty 168=some ⟨.struct [(0,1,false),(1,1,false),(2,1,false),(3,1,false)],4,32,[(.int .i64 0),(.int .i64 0),(.int .i64 0),(.bool false)]⟩:=rfl
@[go_sem] theorem ty_169:ty 169=some ⟨.slice 168,1,24,[(.slice none 0 0)]⟩:=rfl
@[go_sem] theorem ty_170:ty 170=some ⟨.slice 23,1,24,[(.slice none 0 0)]⟩:=rfl
@[go_sem] theorem ty_175:ty 175=some ⟨.slice 182,1,24,[(.slice none 0 0)]⟩:=rfl
@[go_sem] theorem ty_182:ty 182=some ⟨.int .u32,1,4,[(.int .u32 0)]⟩:=rfl
@[go_sem] theorem ty_184:ty 184=some ⟨.one,1,8,[.nilFunc]⟩:=rfl
@[go_sem] theorem ty_192:ty 192=some ⟨.struct [(0,1,false),(1,1,false)],2,32,[(.int .i64 0),(.slice none 0 0)]⟩:=rfl
@[go_sem] theorem ty_201:ty 201=some ⟨.one,1,8,[(.pointer none)]⟩:=rfl
@[go_sem] theorem ty_221:ty 221=some ⟨.int .u64,1,8,[(.int .u64 0)]⟩:=rfl
@[go_sem] theorem ty_224:ty 224=some ⟨.array 64 182,64,256,List.replicate 64 (.int .u32 0)⟩:=rfl
@[go_sem] theorem ty_226:ty 226=some ⟨.array 8 182,8,32,[(.int .u32 0),(.int .u32 0),(.int .u32 0),(.int .u32 0),(.int .u32 0),(.int .u32 0),(.int .u32 0),(.int .u32 0)]⟩:=rfl
@[go_sem] theorem ty_231:ty 231=some ⟨.one,1,8,[(.pointer none)]⟩:=rfl
@[go_sem] theorem ty_233:ty 233=some ⟨.struct [(0,1,false),(1,1,false),(2,1,false)],3,40,[(.slice none 0 0),(.int .i64 0),(.bool false)]⟩:=rfl
@[go_sem] theorem ty_235:ty 235=some ⟨.one,1,8,[(.pointer none)]⟩:=rfl
@[go_sem] theorem ty_238:ty 238=some ⟨.array 16 5,16,16,[(.int .u8 0),(.int .u8 0),(.int .u8 0),(.int .u8 0),(.int .u8 0),(.int .u8 0),(.int .u8 0),(.int .u8 0),(.int .u8 0),(.int .u8 0),(.int .u8 0),(.int .u8 0),(.int .u8 0),(.int .u8 0),(.int .u8 0),(.int .u8 0)]⟩:=rfl
@[go_sem] theorem ty_239:ty 239=some ⟨.array 11 238,176,176,List.replicate 176 (.int .u8 0)⟩:=rfl
@[go_sem] theorem ty_242:ty 242=some ⟨.struct [(0,1,false),(1,176,true)],177,184,[(.pointer none)]++List.replicate 176 (.int .u8 0)⟩:=rfl
@[go_sem] theorem ty_245:ty 245=some ⟨.one,1,8,[(.pointer none)]⟩:=rfl
@[go_sem] theorem ty_246:ty 246=some ⟨.array 256 5,256,256,List.replicate 256 (.int .u8 0)⟩:=rfl
@[go_sem] theorem ty_248:ty 248=some ⟨.struct [(0,256,true),(256,256,true)],512,512,List.replicate 512 (.int .u8 0)⟩:=rfl
@[go_sem] theorem ty_251:ty 251=some ⟨.array 4 5,4,4,[(.int .u8 0),(.int .u8 0),(.int .u8 0),(.int .u8 0)]⟩:=rfl
@[go_sem] theorem ty_262:ty 262=some ⟨.struct [(0,1,false),(1,1,false),(2,1,false),(3,1,false)],4,48,[(.slice none 0 0),(.int .i64 0),(.bool false),(.int .i64 0)]⟩:=rfl
@[go_sem] theorem ty_284:ty 284=some ⟨.struct [(0,1,false),(1,1,false)],2,16,[(.int .i64 0),(.int .i64 0)]⟩:=rfl
@[go_sem] theorem ty_286:ty 286=some ⟨.struct [(0,1,false),(1,1,false),(2,1,false),(3,1,false),(4,1,false),(5,1,false),(6,1,false),(7,2,true)],9,88,[(.string ⟨#[]⟩),(.string ⟨#[]⟩),(.int .i64 0),(.int .i64 0),(.int .i64 0),(.int .i64 0),(.int .i64 0),(.int .i64 0),(.int .i64 0)]⟩:=rfl
@[go_sem] theorem ty_302:ty 302=some ⟨.one,1,8,[(.pointer none)]⟩:=rfl
@[go_sem] theorem ty_332:ty 332=some ⟨.slice 363,1,24,[(.slice none 0 0)]⟩:=rfl
@[go_sem] theorem ty_363:ty 363=some ⟨.struct [(0,1,false),(1,1,false),(2,1,false)],3,40,[(.int .i64 0),(.int .i64 0),(.slice none 0 0)]⟩:=rfl
open Go.TravelAbs Go.RowKit in
theorem rK {X:Cx} {σ:Sg} {Q:Exit→Act→World→Prop} {s:St} {id:Nat} {l:List Oper} {y:Code} (hs:SgOK Tryz.prog σ) (h:∀ K:St→Prop,(∀ s',WA Tryz.prog X y Q s'→K s')→EvR ty σ (fun j=>(l[j]?).bind (·.dst)) l s K):WA Tryz.prog X (.seq (.region id l.toArray false) y) Q s:=WA.regionK ty_ok hs h
end Go.Proofs.YtjjkfpbkmhfckaaGreatDoor
namespace Go.Proofs.YtjjkfpbkmhfckaaGreatDoor
open Go.RowKit Go.TravelBase Go.TravelAbs
theorem mixed_:Tryz.prog.follows .mixedOrders=true:=by kernel_rfl
theorem FnS.q {P:Program} {f:FuncId} {args:List AV} {r r':AV} {v:Value} (h:∀ (w:World) (S:CSet) (m:RMap) (vs:Array Value),(∀ b o,S b o→b<w.heap.size)→vs.size=args.length→(∀ (j:Nat) (x:AV) (u:Value),args[j]? = some x→vs[j]? = some u→VR w S m x u)→Calls P f vs w (RetQ v w)) (hr:rcv 1000 r=(r',[])) (hv:∀ w S m,VR w S m r' v):FnS P f args [] r []:=by
  intro w S rows vs hs hgl hvs ha _ _;refine (h w S _ vs hs hvs ha).mono ?_;rintro e w' ⟨rfl,k,rfl⟩;have hM:Mem ⟨w,S,0,rows,.nil,.inl rfl⟩ [] S (fun _=>none) (w.drewN k) :=
    ⟨fun p hp=>absurd hp (Nat.not_lt_zero p),⟨rfl,rfl,rfl,Nat.le_refl _,fun g hg _=>rfl,fun _ _ q=>q.elim,Nat.zero_le _⟩,fun _ _ q=>q,fun _ _ q=>.inl q,hs,fun _ _=>rfl,(fun k b hk=>absurd hk (by simp [lk])),(fun k k' b b' r r' hk=>absurd hk (by simp [lk])),⟨hgl.mono fun _ _ q=>⟨q,rfl⟩,fun _ _ _ q=>q.elim⟩⟩
  refine ⟨v,S,fun _=>none,rfl,?_,?_⟩
  · rw [hr];exact hM
  · rw [hr];exact hv _ _ _
theorem arr1 {vs:Array Value} {x:AV} {w:World} {S:CSet} {m:RMap} (hl:vs.size=[x].length) (h:∀ (j:Nat) (y:AV) (u:Value),[x][j]? = some y→vs[j]? = some u→VR w S m y u):∃ v,vs = #[v]∧VR w S m x v:=by
  obtain ⟨l⟩:=vs;match l,hl with
  | [v],_=>exact ⟨v,rfl,h 0 x v rfl rfl⟩
theorem arr2 {vs:Array Value} {x y:AV} {w:World} {S:CSet} {m:RMap} (hl:vs.size=[x,y].length) (h:∀ (j:Nat) (z:AV) (u:Value),[x,y][j]? = some z→vs[j]? = some u→VR w S m z u):∃ v u,vs = #[v,u]∧VR w S m x v∧VR w S m y u:=by
  obtain ⟨l⟩:=vs;match l,hl with
  | [v,u],_=>exact ⟨v,u,rfl,h 0 x v rfl rfl,h 1 y u rfl rfl⟩
theorem tup2_lit {w:World} {S:CSet} {m:RMap} (a b:Value):VR w S m (.tup [.lit a,.lit b]) (.tuple #[a,b]) :=
  .tup rfl fun j x u hx hu=>by
    match j,hx,hu with
    | 0,hx,hu=>simp at hx hu;subst hx hu;exact .lit _
    | 1,hx,hu=>simp at hx hu;subst hx hu;exact .lit _
    | j+2,hx,hu=>simp at hx
theorem number_s (bs:List UInt8):FnS Tryz.prog 101 [.by_ bs] [] (.tup [.lit (.int .i64 (numV bs)),.lit (.int .i64 (numE bs))]) [] :=
  FnS.q (fun w S m vs hs hl ha=>by
    obtain ⟨v,rfl,h⟩:=arr1 hl ha;obtain ⟨A,c,rfl,hr⟩:=Rd_of_VR h hs;exact (number_any A _ c bs w hr).mono fun e w' ⟨h1,h2⟩=>⟨h1,0,h2.symm⟩) rfl fun _ _ _=>tup2_lit _ _
theorem rsame_s (xs ys:List UInt8):FnS Tryz.prog 16 [.by_ xs,.by_ ys] [] (.lit (.bool (decide (xs=ys)))) [] :=
  FnS.q (fun w S m vs hs hl ha=>by
    obtain ⟨v,u,rfl,h1,h2⟩:=arr2 hl ha;obtain ⟨A,c,rfl,hr⟩:=Rd_of_VR h1 hs;obtain ⟨A',c',rfl,hr'⟩:=Rd_of_VR h2 hs;exact rsame_any A A' _ c _ c' xs ys w hr hr') rfl fun _ _ _=>.lit _
theorem octets_s (n k:Int) (hn : -9223372036854775808≤n∧n≤9223372036854775807) (hk : -9223372036854775808≤k∧k≤9223372036854775807):FnS Tryz.prog 36 [.lit (.int .i64 n),.lit (.int .i64 k)] [] (.tup [.fr (.by_ (octL n k)),.lit (.int .i64 (octE n k))]) [] :=
  FnS.fr2 (fun w S m vs hs hl ha=>by
    obtain ⟨v,u,rfl,h1,h2⟩:=arr2 hl ha;obtain rfl:=h1.lit_inv;obtain rfl:=h2.lit_inv;exact octets_any n k w hn hk)
theorem fnOK {f:FuncId} {fn:Func} {c:Code} (hf:Tryz.prog.funcs[f]? = some fn) (hn:(fn.name == "runtime.NumGoroutine")=false) (hb:fn.body=some c):FnOK Tryz.prog f:=⟨fn,c,hf,hn,hb⟩
def iA (z:Int):AV:=.lit (.int .i64 z)
def unI:AV→Int
  | .lit (.int _ z)=>z
  | _=>0
def DcOK (L:AV) (z:Int):Prop:=∃ l:List Int,L = .li 1 (l.map iA)∧(∀ y∈l,-9223372036854775808≤y∧y≤9223372036854775807)∧0≤z∧z≤l.length∧l.length≤400
def nxI (L:AV) (z n:Int):Int:=if z<cN L then unI (cAt L z.toNat) % n else 0
def nxZ (L:AV) (z:Int):Int:=if z<cN L then z+1 else z
theorem Tr_ia (l:List Int):Tr (.li 1 (l.map iA))=True:=eq_true (Tr.li fun x hx y hy=>by
  obtain ⟨z,_,rfl⟩:=List.mem_map.1 hx;simp only [iA,AV.cl,List.mem_cons,List.not_mem_nil,or_false] at hy;subst hy;exact Tr.lit _)
theorem DcOK.tr {L:AV} {z:Int} (h:DcOK L z):Tr L=True:=by
  obtain ⟨l,rfl,_⟩:=h;exact Tr_ia l
theorem dc_nx {L:AV} {z:Int} (h:DcOK L z):DcOK L (nxZ L z):=by
  obtain ⟨l,rfl,h1,h2,h3,h4⟩:=h;refine ⟨l,rfl,h1,?_⟩;unfold nxZ;simp only [cN,List.length_map];split <;> omega
theorem nx_rng (L:AV) (z n:Int) (h:1≤n):0≤nxI L z n∧nxI L z n<n:=by
  unfold nxI;split
  · exact ⟨Int.emod_nonneg _ (by omega),Int.emod_lt_of_pos _ (by omega)⟩
  · omega
theorem ia_at {l:List Int} {i:Nat} (h:i<l.length):(l.map iA).getD i .any = .lit (.int .i64 l[i]):=by
  simp [List.getD,List.getElem?_eq_getElem h,iA]
theorem mod_neg (x n:Int) (hn:1≤n) (h:x.tmod n<0):x % n=x.tmod n+n:=by
  have h1:=Int.tmod_add_mul_tdiv x n;have h2:=Int.lt_tmod_of_pos x (show (0:Int)<n by omega);have h3:x=x.tmod n+n*x.tdiv n:=by omega
  have h4:x % n=(x.tmod n+n) % n:=by
    conv=>lhs;rw [h3]
    simp
  rw [h4];exact Int.emod_eq_of_lt (by omega) (by omega)
theorem mod_pos (x n:Int) (hn:1≤n) (h:¬ x.tmod n<0):x % n=x.tmod n:=by
  have h1:=Int.tmod_add_mul_tdiv x n;have h2:=Int.tmod_lt_of_pos x (show (0:Int)<n by omega);have h3:x=x.tmod n+n*x.tdiv n:=by omega
  have h4:x % n=(x.tmod n) % n:=by
    conv=>lhs;rw [h3]
    simp
  rw [h4];exact Int.emod_eq_of_lt (by omega) h2
def sg0:Sg:=fun _ _ _=>none
theorem sg0_ok:SgOK Tryz.prog sg0:=fun _ _ _ _ _ _ h=>by cases h
theorem mod_s (x n:Int) (h1:1≤n) (h2:n≤4611686018427387904) (hx : -9223372036854775808≤x∧x≤9223372036854775807):FnS Tryz.prog 40 [.lit (.int .i64 x),.lit (.int .i64 n)] [] (.lit (.int .i64 (x % n))) []:=by
  have hs:=sg0_ok;have l1:=Int.lt_tmod_of_pos x (show (0:Int)<n by omega);have l2:=Int.tmod_lt_of_pos x (show (0:Int)<n by omega);refine fo Tryz.func40 14 fun X hX=>?_;refine rK hs fun K hK=>?_;simp only [go_sem,sg0]
  refine eK ?_;refine rK hs fun K hK=>?_;simp only [go_sem,sg0]
  refine eK ?_;refine up 1 ?_;refine rK hs fun K hK=>?_;simp only [go_sem,sg0]
  refine eK ?_;refine WA.cond rfl (fun h=>?_) (fun h=>?_)
  ·
    have e:=mod_neg x n h1 (of_decide_eq_true h);refine WA.regionE ty_ok hs fun K hK=>?_;simp only [go_sem,sg0];refine And.intro (by omega) ?_;with_reducible refine hK _ (WN.mk ?_)
    clear hK K;with_reducible repeat first | refine WN.t ?_ | refine WN.b ?_
    refine rK hs fun K hK=>?_;simp only [go_sem,sg0]
    refine eK ?_;refine rE [.lit (.int .i64 (x % n))] [] [.tmp 4] ?_;simp only [go_sem,e]
  ·
    refine up 1 ?_
    have e:=mod_pos x n h1 (of_decide_eq_false h);refine rK hs fun K hK=>?_;simp only [go_sem,sg0]
    refine eK ?_;refine rE [.lit (.int .i64 (x % n))] [] [.tmp 4] ?_;simp only [go_sem,e]
def sgM:Sg:=fun f args ls =>
  match f,args,ls with
  | 40,[.lit (.int .i64 x),.lit (.int .i64 n)],[]=>some (.lit (.int .i64 (x % n)),[],(1≤n∧n≤4611686018427387904) ∧ -9223372036854775808≤x∧x≤9223372036854775807)
  | _,_,_=>none
theorem sgM_ok:SgOK Tryz.prog sgM:=by
  intro f args ls r ls' vc h hvc;unfold sgM at h;split at h <;> cases h
  exact ⟨fnOK Tryz.func40 (by decide) rfl,mod_s _ _ hvc.1.1 hvc.1.2 hvc.2⟩
theorem next_s (L:AV) (z n:Int) (hd:DcOK L z) (h1:1≤n) (h2:n≤4611686018427387904):FnS Tryz.prog 19 [.ptr 0 0 0,.lit (.int .i64 n)] [.li 2 [.agg [L,.lit (.int .i64 z)]]] (.lit (.int .i64 (nxI L z n))) [.li 2 [.agg [L,.lit (.int .i64 (nxZ L z))]]]:=by
  have hs:=sgM_ok;obtain ⟨l,rfl,hl,z0,z1,z2⟩:=hd;obtain ⟨k,rfl⟩:=Int.eq_ofNat_of_zero_le z0;refine fo Tryz.func19 35 fun X hX=>?_;have t1:=Tr_ia l;refine rK hs fun K hK=>?_;simp only [go_sem,sgM]
  refine eK ?_;refine up 1 ?_;refine WA.drawnK mixed_ ty_ok hs (tbl:=[[],[0],[0,1],[0,1,2],[],[4],[4,5],[4,5,6],[4,5,6,7],[0,1,2,3,4,5,6,7,8]]) (nb:=[3,7]) (by kernel_rfl) fun K hK=>?_;simp only [go_sem,sgM]
  refine eK ?_;refine WA.cond rfl (fun h=>?_) (fun h=>?_)
  ·
    have h6:¬ (k:Int)<(l.length:Nat):=by have:=of_decide_eq_true h;omega
    refine rK hs fun K hK=>?_;simp only [go_sem,sgM]
    refine eK ?_;refine rE [.lit (.int .i64 (nxI (.li 1 (l.map iA)) k n))] [.li 2 [.agg [.li 1 (l.map iA),.lit (.int .i64 (nxZ (.li 1 (l.map iA)) k))]]] [.tmp 4] ?_;simp only [go_sem,nxI,nxZ,h6,t1]
  ·
    refine up 1 ?_
    have h6:k<l.length:=by have:=of_decide_eq_false h;omega
    have h7:(k:Int)<(l.length:Nat):=by omega
    have g:=ia_at h6;have e1:(k:Int)+1-1=k:=by omega
    refine rK hs fun K hK=>?_;simp only [go_sem,sgM]
    refine eK ?_;have g2:=hl _ (List.getElem_mem h6);refine WA.drawnK mixed_ ty_ok hs (tbl:=[[],[0],[0,1],[0,1,2],[],[4],[4,5],[4,5,6],[4,5,6,7],[0,1,2,3,4,5,6,7,8],[0,1,2,3,4,5,6,7,8,9],[],[0,1,2,3,4,5,6,7,8,9,10,11],[0,1,2,3,4,5,6,7,8,9,10,11,12]]) (nb:=[3,7,10,12]) (by kernel_rfl) fun K hK=>?_;simp only [go_sem,sgM,g,e1]
    refine eK ?_;refine rE [.lit (.int .i64 (nxI (.li 1 (l.map iA)) k n))] [.li 2 [.agg [.li 1 (l.map iA),.lit (.int .i64 (nxZ (.li 1 (l.map iA)) k))]]] [.tmp 4] ?_;simp only [go_sem,nxI,nxZ,h7,t1,g,unI]
def sgD:Sg:=fun f args ls =>
  match f,args,ls with
  | 19,[.ptr 0 0 0,.lit (.int .i64 n)],[.li 2 [.agg [L,.lit (.int .i64 z)]]]=>some (.lit (.int .i64 (nxI L z n)),[.li 2 [.agg [L,.lit (.int .i64 (nxZ L z))]]],DcOK L z∧1≤n∧n≤4611686018427387904)
  | _,_,_=>none
theorem sgD_ok:SgOK Tryz.prog sgD:=by
  intro f args ls r ls' vc h hvc;unfold sgD at h;split at h <;> cases h
  exact ⟨fnOK Tryz.func19 (by decide) rfl,next_s _ _ _ hvc.1 hvc.2.1 hvc.2.2⟩
theorem one_s (L:AV) (z n:Int) (hd:DcOK L z) (h1:1≤n) (h2:n≤4611686018427387904):FnS Tryz.prog 20 [.ptr 0 0 0,.lit (.int .i64 n)] [.li 2 [.agg [L,.lit (.int .i64 z)]]] (.lit (.bool (nxI L z n == n-1))) [.li 2 [.agg [L,.lit (.int .i64 (nxZ L z))]]]:=by
  have hs:=sgD_ok;have ht:=hd.tr;refine fo Tryz.func20 11 fun X hX=>?_;refine rK hs fun K hK=>?_;simp only [go_sem,sgD,hd,ht]
  refine eK ?_;refine rK hs fun K hK=>?_;simp only [go_sem,sgD,hd,ht]
  refine eK ?_;refine rE [.lit (.bool (nxI L z n == n-1))] [.li 2 [.agg [L,.lit (.int .i64 (nxZ L z))]]] [.tmp 4] ?_;simp only [go_sem,ht]
theorem light_s (xs:List AV):FnS Tryz.prog 4 [.li 1 xs] [] (.lit (.bool (decide ((xs.length:Int)≤400)))) []:=by
  have hs:=sg0_ok;refine fo Tryz.func4 6 fun X hX=>?_;refine rK hs fun K hK=>?_;simp only [go_sem,sg0]
  refine eK ?_;refine rK hs fun K hK=>?_;simp only [go_sem,sg0]
  refine eK ?_;refine rE [.lit (.bool (decide ((xs.length:Int)≤400)))] [] [.tmp 2] ?_;simp only [go_sem,sbT]
theorem roll_s (xs:List AV) (hT:Tr (.li 1 xs)=True):FnS Tryz.prog 6 [.li 1 xs] [] (.fr (.opt true (.li 2 [.agg [.li 1 xs,.lit (.int .i64 0)]]))) []:=by
  have hs:=sg0_ok;refine fo Tryz.func6 6 fun X hX=>?_;refine rK hs fun K hK=>?_;simp only [go_sem,sg0]
  refine eK ?_;refine rK hs fun K hK=>?_;simp only [go_sem,sg0]
  refine eK ?_;refine rE [.fr (.opt true (.li 2 [.agg [.li 1 xs,.lit (.int .i64 0)]]))] [] [.tmp 2] ?_;simp only [go_sem,sbT,hT]
end Go.Proofs.YtjjkfpbkmhfckaaGreatDoor
namespace Go.Proofs.YtjjkfpbkmhfckaaGreatDoor
open Go.ChangeShapes Go.WideShapes Go.ChangeAt Go.RowKit Go.TravelBase Go.Deep
section
variable {H:Type} {enc:TypeId × Value→H} {P:Program} {W:World}
theorem opn_bytes1 {t e:TypeId} {u:Value} {n:Nat} {y:DataW H × List MemPlace} (ht:P.underlying t=some (.slice e)) (he:P.underlying e=some (.int .u8)) (hc:P.cellsOf e=1)
    (h:DataW.trod enc P W 0 (fun _=>true) true n t [u]=some y):∃ A m c bs,u = .slice A m c∧Rd W A m c (bvs bs):=by
  rcases open_slice ht h with ⟨hcs,_⟩ | ⟨a,l,cap,m,n',D,Pl,hcs,_,_,_,_,_,_⟩
  · injection hcs with hcs;subst hcs;exact ⟨none,0,0,[],rfl,Rd.nil_ W⟩
  · injection hcs with hcs;subst hcs;obtain ⟨bs,hr,_⟩:=opn_bytes (enc:=enc) (A:=some a) (n:=l) (c:=cap) (d:=y.1) (p:=y.2) ht he hc ⟨n,h⟩;exact ⟨_,_,_,bs,rfl,hr⟩
end
end Go.Proofs.YtjjkfpbkmhfckaaGreatDoor
namespace Go.TravelAbs
open Go.RowKit Go.TravelBase
theorem FnS.law {P:Program} {f:FuncId} {args:List AV} {v:Value} (h:FnS P f args [] (.lit v) []) (W:World) (vs:Array Value) (hl:vs.size=args.length) (hv:∀ m,∀ (j:Nat) (x:AV) (u:Value),args[j]? = some x→vs[j]? = some u→VR W (fun b _=>b<W.heap.size) m x u) (hG:GLw W (fun b _=>b<W.heap.size):=by exact fun _=>VR.any _) :
    Calls P f vs W fun e W'=>e = .returned v∧Below W.heap.size W W':=by
  refine (h W (fun b _=>b<W.heap.size) (fun _=>⟨0,0,0⟩) vs (fun _ _ h=>h) hG hl (hv _) (fun p c hp=>by simp at hp) (fun p q hp=>by simp at hp)).mono ?_;rintro e W' ⟨u,S',m',rfl,hM,hu⟩;have hu:u=v:=hu.lit_inv;subst hu;exact ⟨rfl,hM.frm.os,hM.frm.tape,hM.frm.output,hM.frm.size,fun k hk=>hM.frm.block k hk (fun ⟨p,hp,_⟩=>absurd hp (Nat.not_lt_zero p))⟩
end Go.TravelAbs
namespace Go.Proofs.YtjjkfpbkmhfckaaGreatDoor
open Go.ChangeShapes Go.WideShapes Go.ChangeAt Go.RowKit Go.TravelBase Go.Deep
section
variable {H:Type} {enc:TypeId × Value→H} {P:Program} {W:World}
end
end Go.Proofs.YtjjkfpbkmhfckaaGreatDoor
namespace Go.Proofs.YtjjkfpbkmhfckaaGreatDoor
open Go.RowKit Go.TravelBase Go.TravelAbs Go.ChangeShapes Go.WideShapes Go.ChangeAt
theorem VR_ints {w:World} {S:CSet} {m:RMap} {A:Option Addr} {n c:Nat} {zs:List Int} (h:Rd w A n c (zs.map (Value.int .i64))) (hS:∀ b o,b<w.heap.size→S b o):VR w S m (.li 1 (zs.map iA)) (.slice A n c):=by
  have hlen:zs.length=n:=by have:=h.len;simpa using this
  refine .li (us:=fun j=>.int .i64 (zs.getD j 0)) (by simp [hlen]) h.cap h.max h.2.2.2.1 (by decide) (fun x hx=>?_) ?_ (fun i j x y hx hy=>?_)
  · obtain ⟨z,_,rfl⟩:=List.mem_map.1 hx;rfl
  · rcases Nat.eq_zero_or_pos n with h0 | hpos
    · exact .inl (by rw [h0])
    · obtain ⟨b,off,e,hb,hc⟩:=h.at_ hpos;refine .inr ⟨b,off,e,fun i hi=>⟨hS _ _ hb,hc i _ ?_⟩⟩;have hi:i<zs.length:=by omega
      simp [List.getD,List.getElem?_eq_getElem hi]
  · have hi:i<zs.length:=by have:=(List.getElem?_eq_some_iff.1 hx).1;simpa using this
    rw [List.getElem?_map,List.getElem?_eq_getElem hi] at hx;simp only [Option.map_some,Option.some.injEq] at hx;subst hx;match j,hy with
    | 0,hy =>
      simp only [iA,AV.cl,List.getElem?_cons_zero,Option.some.injEq] at hy;subst hy;have:zs.getD (i*1+0) 0=zs[i]:=by simp [List.getD,List.getElem?_eq_getElem hi]
      rw [this];exact .lit _
    | j+1,hy=>simp [iA,AV.cl] at hy
theorem wf_i64 {zs:List Int} (h:∀ z∈zs,(Lit.int .i64 z).wf=true):∀ y∈zs,-9223372036854775808≤y∧y≤9223372036854775807:=fun y hy=>bounds_i64 (h y hy)
end Go.Proofs.YtjjkfpbkmhfckaaGreatDoor
namespace Go.Proofs.YtjjkfpbkmhfckaaGreatDoor
open Go.ChangeShapes Go.WideShapes Go.ChangeAt Go.RowKit Go.TravelBase Go.Deep Go.TravelAbs
section
variable {H:Type} {enc:TypeId × Value→H} {P:Program} {W:World}
def CellsR (W:World) (x:AV) (cs:List Value):Prop:=x.cl.length=cs.length ∧ ∀ (j:Nat) (z:AV) (u:Value),x.cl[j]? = some z→cs[j]? = some u → ∀ m,VR W (fun b _=>b<W.heap.size) m z u
def OpnAt (enc:TypeId × Value→H) (P:Program) (W:World) (fuel:Nat) (t:TypeId) (Φ:AV→Prop):Prop :=
  ∀ (cs:List Value) (y:DataW H × List MemPlace),DataW.trod enc P W 0 (fun _=>true) true fuel t cs=some y → ∃ x:AV,Φ x∧CellsR W x cs
theorem CellsR.one {x:AV} {v:Value} (hx:x.cl=[x]) (h:∀ m,VR W (fun b _=>b<W.heap.size) m x v):CellsR W x [v]:=by
  refine ⟨by rw [hx];rfl,fun j z u hz hu m=>?_⟩;rw [hx] at hz;match j,hz,hu with
  | 0,hz,hu=>simp at hz hu;subst hz hu;exact h m
  | j+1,hz,hu=>simp at hz
theorem OpnAt.mono {fuel:Nat} {t:TypeId} {Φ Ψ:AV→Prop} (h:OpnAt enc P W fuel t Φ) (hm:∀ x,Φ x→Ψ x):OpnAt enc P W fuel t Ψ:=fun cs y hy=>by
  obtain ⟨x,h1,h2⟩:=h cs y hy;exact ⟨x,hm x h1,h2⟩
theorem OpnAt.int {fuel:Nat} {t:TypeId} {k:IntKind} (ht:P.underlying t=some (.int k)):OpnAt enc P W fuel t (fun x=>∃ a,x = .lit (.int k a)∧(Lit.int k a).wf=true):=fun cs y hy=>by
  obtain ⟨a,rfl,_,h⟩:=DataW.trod_int ht hy;exact ⟨_,⟨a,rfl,h⟩,.one rfl fun m=>.lit _⟩
theorem OpnAt.bool {fuel:Nat} {t:TypeId} (ht:P.underlying t=some .bool):OpnAt enc P W fuel t (fun x=>∃ a,x = .lit (.bool a)):=fun cs y hy=>by
  obtain ⟨a,rfl,_⟩:=DataW.trod_bool ht hy;exact ⟨_,⟨a,rfl⟩,.one rfl fun m=>.lit _⟩
theorem OpnAt.bytes {fuel:Nat} {t e:TypeId} (ht:P.underlying t=some (.slice e)) (he:P.underlying e=some (.int .u8)) (hc:P.cellsOf e=1):OpnAt enc P W fuel t (fun x=>∃ bs,x = .by_ bs):=fun cs y hy=>by
  have h1:∃ u,cs=[u]:=by
    rcases open_slice ht hy with ⟨h,_⟩ | ⟨a,l,c,_,_,_,_,h,_⟩
    · exact ⟨_,h⟩
    · exact ⟨_,h⟩
  obtain ⟨u,rfl⟩:=h1;obtain ⟨A,n,c,bs,rfl,hr⟩:=opn_bytes1 ht he hc hy;exact ⟨_,⟨bs,rfl⟩,.one rfl fun m=>VR_of_Rd hr fun b o h=>h⟩
def contigB (P:Program):List Field→Nat→Nat→Bool
  | [],o,n=>o == n
  | f::fs,o,n=>(f.offset == o) && contigB P fs (o+P.cellsOf f.type) n
theorem contig_le:∀ (fs:List Field) (o n:Nat),contigB P fs o n=true→o≤n
  | [],o,n,h=>by simp [contigB] at h;omega
  | f::fs,o,n,h=>by
    simp only [contigB,Bool.and_eq_true] at h;have:=contig_le fs _ _ h.2;omega
theorem parts_of:∀ (fs:List Field) (o i0:Nat) (cs:List Value) (Φ:Nat→AV→Prop),contigB P fs o cs.length=true →
    (∀ (k:Nat) (f:Field),fs[k]? = some f → ∃ x,Φ (i0+k) x∧CellsR W x ((cs.drop f.offset).take (P.cellsOf f.type))) →
    ∃ ps:List AV,ps.length=fs.length∧(∀ (k:Nat) (p:AV),ps[k]? = some p→Φ (i0+k) p)∧(ps.flatMap AV.cl).length=(cs.drop o).length ∧
      ∀ (j:Nat) (z:AV) (u:Value),(ps.flatMap AV.cl)[j]? = some z→(cs.drop o)[j]? = some u → ∀ m,VR W (fun b _=>b<W.heap.size) m z u
  | [],o,i0,cs,Φ,hc,_=>by
    simp [contigB] at hc;subst hc;exact ⟨[],rfl,fun k p hp=>by simp at hp,by simp,fun j z u hz=>by simp at hz⟩
  | f::fs,o,i0,cs,Φ,hc,hf=>by
    simp only [contigB,Bool.and_eq_true,beq_iff_eq] at hc;obtain ⟨ho,hc⟩:=hc;have hle:=contig_le fs _ _ hc;obtain ⟨x,h1,h2,h3⟩:=hf 0 f rfl;obtain ⟨ps,q1,q2,q3,q4⟩:=parts_of fs (o+P.cellsOf f.type) (i0+1) cs Φ hc (fun k g hg=>by
      have:=hf (k+1) g (by simpa using hg);rwa [show i0+(k+1)=i0+1+k by omega] at this)
    rw [ho] at h2 h3;have hlen:x.cl.length=P.cellsOf f.type:=by
      rw [h2,List.length_take,List.length_drop];omega
    refine ⟨x::ps,by simp [q1],fun k p hp=>?_,?_,fun j z u hz hu m=>?_⟩
    · match k,hp with
      | 0,hp=>simp at hp;subst hp;exact h1
      | k+1,hp =>
        have:=q2 k p (by simpa using hp);rwa [show i0+(k+1)=i0+1+k by omega]
    · rw [List.flatMap_cons,List.length_append,q3,hlen,List.length_drop,List.length_drop];omega
    · rw [List.flatMap_cons] at hz;rcases Nat.lt_or_ge j x.cl.length with hj | hj
      · rw [List.getElem?_append_left hj] at hz;refine h3 j z u hz ?_ m;rw [List.getElem?_take,if_pos (by omega)];exact hu
      · rw [List.getElem?_append_right hj] at hz;refine q4 (j-x.cl.length) z u hz ?_ m;rw [← hu,List.getElem?_drop,List.getElem?_drop,hlen];congr 1
        omega
theorem OpnAt.struct {fuel:Nat} {t:TypeId} {fs:Array Field} {Φ:Nat→AV→Prop} (ht:P.underlying t=some (.struct fs)) (hc:contigB P fs.toList 0 (P.cellsOf t)=true) (hf:∀ (k:Nat) (f:Field),fs[k]? = some f → ∀ n,n<fuel→OpnAt enc P W n f.type (Φ k)) :
    OpnAt enc P W fuel t (fun x=>∃ ps:List AV,x = .agg (ps.flatMap AV.cl)∧ps.length=fs.size ∧ ∀ (k:Nat) (p:AV),ps[k]? = some p→Φ k p):=fun cs y hy=>by
  obtain ⟨xs,n,hfu,_,hlen,hxl,hg⟩:=DataW.trod_struct ht hy;obtain ⟨ps,q1,q2,q3,q4⟩:=parts_of (P:=P) (W:=W) fs.toList 0 0 cs Φ (by rw [hlen];exact hc) (fun k f hk=>by
    have hk':fs[k]? = some f:=by simpa using hk
    have h1:=hg k f hk';have hk2:k<xs.length:=by rw [hxl];exact (Array.getElem?_eq_some_iff.1 hk').1
    rw [List.getElem?_eq_getElem hk2] at h1;rw [Nat.zero_add];exact hf k f hk' n (by omega) _ _ h1)
  simp only [List.drop_zero,Nat.zero_add] at q2 q3 q4;exact ⟨_,⟨ps,rfl,by rw [q1];simp,q2⟩,q3,q4⟩
def FsOK (enc:TypeId × Value→H) (P:Program) (W:World) (fuel:Nat) (Φ:Nat→AV→Prop):List Field→Nat→Prop
  | [],_=>True
  | f::fs,k=>(∀ n,n<fuel→OpnAt enc P W n f.type (Φ k))∧FsOK enc P W fuel Φ fs (k+1)
theorem FsOK.at_ {fuel:Nat} {Φ:Nat→AV→Prop}:∀ {fs:List Field} {i0:Nat},FsOK enc P W fuel Φ fs i0 → ∀ (k:Nat) (f:Field),fs[k]? = some f → ∀ n,n<fuel→OpnAt enc P W n f.type (Φ (i0+k))
  | [],_,_,k,f,hk=>by simp at hk
  | g::fs,i0,h,0,f,hk=>by
    simp at hk;subst hk;exact h.1
  | g::fs,i0,h,k+1,f,hk=>by
    have:=FsOK.at_ h.2 k f (by simpa using hk);rwa [show i0+1+k=i0+(k+1) by omega] at this
theorem OpnAt.structL {fuel:Nat} {t:TypeId} {fs:Array Field} (Φ:Nat→AV→Prop) (ht:P.underlying t=some (.struct fs)) (hc:contigB P fs.toList 0 (P.cellsOf t)=true) (hf:FsOK enc P W fuel Φ fs.toList 0) :
    OpnAt enc P W fuel t (fun x=>∃ ps:List AV,x = .agg (ps.flatMap AV.cl)∧ps.length=fs.size ∧ ∀ (k:Nat) (p:AV),ps[k]? = some p→Φ k p) :=
  OpnAt.struct ht hc fun k f hk n hn=>by
    have:=hf.at_ k f (by simpa using hk) n hn;rwa [Nat.zero_add] at this
end
end Go.Proofs.YtjjkfpbkmhfckaaGreatDoor
namespace Go.Proofs.YtjjkfpbkmhfckaaGreatDoor
open Go.ChangeShapes Go.WideShapes Go.ChangeAt Go.RowKit Go.TravelBase Go.Deep Go.TravelAbs
section
variable {H:Type} {enc:TypeId × Value→H} {P:Program} {W:World}
def LtW (P:Program) (t:TypeId) (d:DataW H):Prop:=∀ n∈d.weights P t,n≤reachBytes
def OpnSz (enc:TypeId × Value→H) (P:Program) (W:World) (fuel:Nat) (t:TypeId) (Φ:AV→Prop):Prop :=
  ∀ (cs:List Value) (y:DataW H × List MemPlace),DataW.trod enc P W 0 (fun _=>true) true fuel t cs=some y→LtW P t y.1 → ∃ x:AV,Φ x∧CellsR W x cs
theorem OpnSz.mono {fuel:Nat} {t:TypeId} {Φ Ψ:AV→Prop} (h:OpnSz enc P W fuel t Φ) (hm:∀ x,Φ x→Ψ x):OpnSz enc P W fuel t Ψ:=fun cs y hy hw=>by
  obtain ⟨x,h1,h2⟩:=h cs y hy hw;exact ⟨x,hm x h1,h2⟩
theorem OpnAt.sz {fuel:Nat} {t:TypeId} {Φ:AV→Prop} (h:OpnAt enc P W fuel t Φ):OpnSz enc P W fuel t Φ:=fun cs y hy _=>h cs y hy
theorem OpnSz.bytes {fuel:Nat} {t e:TypeId} (ht:P.underlying t=some (.slice e)) (he:P.underlying e=some (.int .u8)) (hc:P.cellsOf e=1) (hb:P.bytesOf e=1):OpnSz enc P W fuel t (fun x=>∃ bs,x = .by_ bs∧bs.length≤reachBytes):=fun cs y hy hw=>by
  obtain ⟨x,⟨bs,rfl⟩,h2⟩:=OpnAt.bytes ht he hc cs y hy;refine ⟨_,⟨bs,rfl,?_⟩,h2⟩;rcases DataW.trod_slice ht hy with ⟨rfl,_⟩ | ⟨a,len,cap,elems,rest,n,hfu,rfl,hx,_,hl,hm,hlen,hel,_⟩
  · have h3:=h2.2 0 (.by_ bs) (.slice none 0 0) rfl rfl (fun _=>none);cases h3 with
    | by_ hn=>omega
  · have h3:=h2.2 0 (.by_ bs) (.slice (some a) len cap) rfl rfl (fun _=>none);cases h3 with
    | by_ hn =>
      have h4:=hw ((elems.length+rest.length)*1) (by rw [hx];simp [DataW.weights,ht,hb]);omega
theorem OpnSz.struct {fuel:Nat} {t:TypeId} {fs:Array Field} {Φ:Nat→AV→Prop} (ht:P.underlying t=some (.struct fs)) (hc:contigB P fs.toList 0 (P.cellsOf t)=true) (hf:∀ (k:Nat) (f:Field),fs[k]? = some f → ∀ n,n<fuel→OpnSz enc P W n f.type (Φ k)) :
    OpnSz enc P W fuel t (fun x=>∃ ps:List AV,x = .agg (ps.flatMap AV.cl)∧ps.length=fs.size ∧ ∀ (k:Nat) (p:AV),ps[k]? = some p→Φ k p):=fun cs y hy hw=>by
  obtain ⟨xs,n,hfu,hx0,hlen,hxl,hg⟩:=DataW.trod_struct ht hy;obtain ⟨ps,q1,q2,q3,q4⟩:=parts_of (P:=P) (W:=W) fs.toList 0 0 cs Φ (by rw [hlen];exact hc) (fun k f hk=>by
    have hk':fs[k]? = some f:=by simpa using hk
    have h1:=hg k f hk';have hk2:k<xs.length:=by rw [hxl];exact (Array.getElem?_eq_some_iff.1 hk').1
    rw [List.getElem?_eq_getElem hk2] at h1;rw [Nat.zero_add];exact hf k f hk' n (by omega) _ _ h1 (fun q hq=>hw q (by rw [hx0];simp only [DataW.weights,ht];exact DataW.weights_mem_each (j:=k) (by simp [hk']) (by simp [List.getElem?_map,List.getElem?_eq_getElem hk2]) q hq)))
  simp only [List.drop_zero,Nat.zero_add] at q2 q3 q4;exact ⟨_,⟨ps,rfl,by rw [q1];simp,q2⟩,q3,q4⟩
def FzOK (enc:TypeId × Value→H) (P:Program) (W:World) (fuel:Nat) (Φ:Nat→AV→Prop):List Field→Nat→Prop
  | [],_=>True
  | f::fs,k=>(∀ n,n<fuel→OpnSz enc P W n f.type (Φ k))∧FzOK enc P W fuel Φ fs (k+1)
theorem FzOK.at_ {fuel:Nat} {Φ:Nat→AV→Prop}:∀ {fs:List Field} {i0:Nat},FzOK enc P W fuel Φ fs i0 → ∀ (k:Nat) (f:Field),fs[k]? = some f → ∀ n,n<fuel→OpnSz enc P W n f.type (Φ (i0+k))
  | [],_,_,k,f,hk=>by simp at hk
  | g::fs,i0,h,0,f,hk=>by
    simp at hk;subst hk;exact h.1
  | g::fs,i0,h,k+1,f,hk=>by
    have:=FzOK.at_ h.2 k f (by simpa using hk);rwa [show i0+1+k=i0+(k+1) by omega] at this
theorem OpnSz.structL {fuel:Nat} {t:TypeId} {fs:Array Field} (Φ:Nat→AV→Prop) (ht:P.underlying t=some (.struct fs)) (hc:contigB P fs.toList 0 (P.cellsOf t)=true) (hf:FzOK enc P W fuel Φ fs.toList 0) :
    OpnSz enc P W fuel t (fun x=>∃ ps:List AV,x = .agg (ps.flatMap AV.cl)∧ps.length=fs.size ∧ ∀ (k:Nat) (p:AV),ps[k]? = some p→Φ k p) :=
  OpnSz.struct ht hc fun k f hk n hn=>by
    have:=hf.at_ k f (by simpa using hk) n hn;rwa [Nat.zero_add] at this
theorem LtW_of {ts:List TypeId} {ds:List (DataW H)} (h:(DataW.weightsEach P ts ds).all (· ≤ reachBytes)=true) {j:Nat} {t:TypeId} {d:DataW H} (ht:ts[j]? = some t) (hd:ds[j]? = some d):LtW P t d:=fun n hn=>by
  have:=List.all_eq_true.1 h _ (DataW.weights_mem_each ht hd n hn);simpa using this
theorem opz_row {t:TypeId} {cs:Array Value} {d:DataW H} {p:List MemPlace} {Φ:AV→Prop} (hO:∀ fuel,OpnSz enc P W fuel t Φ) (hw:LtW P t d) (h:DataW.Trod enc P W 0 (fun _=>true) true t (.agg cs) d p):∃ x,Φ x ∧ ∀ m,VR W (fun b _=>b<W.heap.size) m (.agg x.cl) (.agg cs):=by
  obtain ⟨fuel,ht⟩:=h;obtain ⟨x,h2,h3,h4⟩:=hO fuel _ _ ht hw;refine ⟨x,h2,fun m=>.agg ?_ fun j z u hz hu=>h4 j z u hz (by simpa [Value.cells] using hu) m⟩;rw [h3];simp [Value.cells]
end
end Go.Proofs.YtjjkfpbkmhfckaaGreatDoor
namespace Go.TravelAbs
open Go.RowKit Go.TravelBase
section
variable {P:Program} {ty:Ty} {X:Cx} {Q:Exit→Act→World→Prop}
theorem WN.retE (hT:TysOK P ty) {s:St} {fn:Func} {rv:List ResultVar} {xs ls':List AV} (hrv:fn.results.toList=rv) (hnl:X.nl=ls'.length) (h1000:ls'.length<1000) (hsg:xs.length=1→isT (xs.getD 0 .any)=false) (hQ:∀ a w,FQ P X fn (mkR xs) ls' .normal a w→Q .normal a w)
    (h:ExR ty s rv xs ls'):WN X Q s:=fun a w hR=>hQ a w (ExR.out hT hrv h (.inl hnl) (by omega) hsg hR)
theorem WX.bn {s:St} {id:Nat} (h:WN X Q s):WX X id (Exit.inBlock id Q) s:=fun a w hR=>by
  have:=h a w hR;simpa [Exit.inBlock] using this
end
def NpR (s:St) (t:Nat) (K:St→Prop):Prop :=
  match cvK s.H (gt s.tm t) with
  | some (y,e,v)=>v∧K ⟨(t,y)::s.tm,e++s.H,s.ctr,s.sz⟩
  | none=>False
section
variable {P:Program} {X:Cx} {w:World} {Q:Exit→Act→World→Prop}
theorem Rel.normP {s:St} {t:Nat} {K:St→Prop} (h:NpR s t K) {a:Act} {w:World} (hR:Rel X s a w):∃ s',K s'∧Rel X s' a w:=by
  unfold NpR at h;split at h
  · rename_i y e v hcv;obtain ⟨S,m,hM,ht⟩:=hR.mem;obtain ⟨S',a1,a2,a3,a4⟩:=cvK_ok hM (ht t) hcv h.1;refine ⟨_,h.2,hR.size,hR.defers,fun k hk=>Mem.dom' hM a1 (hR.kl k hk),S',m,a1,fun t'=>?_⟩;by_cases e1:t'=t
    · subst e1;have e2:gt ((t',y)::s.tm) t'=y:=by simp [gt,lk]
      show VR w S' m (gt ((t',y)::s.tm) t') _;rw [e2];exact a3
    · have e2:gt ((t,y)::s.tm) t'=gt s.tm t':=by simp [gt,lk,e1]
      show VR w S' m (gt ((t,y)::s.tm) t') _;rw [e2];exact (ht t').adv a2
  · exact h.elim
theorem WA.normP {c:Code} {s:St} (t:Nat) (h:∀ K:St→Prop,(∀ s',WA P X c Q s'→K s')→NpR s t K):WA P X c Q s:=fun a w hR=>by
  obtain ⟨s',h1,h2⟩:=Rel.normP (h (fun s'=>WA P X c Q s') (fun _ h=>h)) hR;exact h1 a w h2
end
attribute [go_sem] NpR cvK
end Go.TravelAbs
namespace Go.Proofs.YtjjkfpbkmhfckaaGreatDoor
open Go.RowKit Go.TravelBase Go.TravelAbs
theorem sclone_any (A:Option Addr) (n c:Nat) (xs:List UInt8) (w:World) (h:Rd w A n c (bvs xs)) (hr:n≤140737488355328) :
    Calls Tryz.prog 46 #[.slice A n c] w (RetS 5 n (bvs xs) w):=by
  have hm:=h.max;obtain ⟨i0,hi,hz0,hz1,hz2⟩:=info_parts info_u8;cases A with
  | none =>
    obtain ⟨rfl,rfl,h0⟩:=h.none_;rw [h0];have k1:=fun (w:World) (a:Option Addr) (n c:Nat)=>Lib.run_eql_slice_nil (P:=Tryz.prog) w 23 5 a n c 0 0 Tryz.underlying23;go_enter Tryz.func46,Tryz.ntmps46
    go_wp2
    go_ret
    exact RetS.ap (Ap.nil_ _ _ _) (Below.refl _ _)
  | some ad =>
    have k1:=fun (w:World) (a:Option Addr) (n c:Nat)=>Lib.run_eql_slice_nil (P:=Tryz.prog) w 23 5 a n c 0 0 Tryz.underlying23;go_enter Tryz.func46,Tryz.ntmps46
    go_wp2_with (at_builtin;refine wpList_append_ap _ rfl _ _ 23 rfl w.heap.size 5 i0 _ 1 Tryz.underlying23 hi hz0 hz1 hz2 rfl _ 0 0 [] rfl (Ap.empty _ _ _ _) (some ad) n c (bvs xs) rfl (h.alloc _) (one_bvs _) (by omega) (by unfold maxLen;omega) (by simp) ?_;intro A2 c2 w2 hap hgr hb hne)
    go_ret
    simp only [Nat.zero_add,List.nil_append] at hap ⊢;exact RetS.ap hap (((Below.refl _ _).alloc (Nat.le_refl _) _).trans hb)
theorem sclone_s (bs:List UInt8) (hb:bs.length≤140737488355328):FnS Tryz.prog 46 [.by_ bs] [] (.fr (.by_ bs)) [] :=
  FnS.fr1 (fun w S m vs hs hl ha=>by
    obtain ⟨v,rfl,h⟩:=arr1 hl ha;obtain ⟨A,c,rfl,hr⟩:=Rd_of_VR h hs;exact sclone_any A _ c bs w hr hb)
theorem bequal_s (xs ys:List UInt8):FnS Tryz.prog 52 [.by_ xs,.by_ ys] [] (.lit (.bool (decide (xs=ys)))) [] :=
  FnS.q (fun w S m vs hs hl ha=>by
    obtain ⟨v,u,rfl,h1,h2⟩:=arr2 hl ha;obtain ⟨A,c,rfl,hr⟩:=Rd_of_VR h1 hs;obtain ⟨A',c',rfl,hr'⟩:=Rd_of_VR h2 hs;exact (bequal_any A A' _ c _ c' xs ys w hr hr').mono fun e w' ⟨h1,h2⟩=>⟨h1,0,h2.symm⟩) rfl fun _ _ _=>.lit _
end Go.Proofs.YtjjkfpbkmhfckaaGreatDoor
namespace Go.TravelAbs
open Go.RowKit Go.TravelBase
theorem VR.li_inv {w:World} {S:CSet} {m:RMap} {es:Nat} {xs:List AV} {v:Value} (h:VR w S m (.li es xs) v):∃ A c,v = .slice A xs.length c∧(A.isNone=true→xs=[]):=by
  cases h with
  | li us hn hc hm h0 hes he hA h =>
    rename_i A n c;refine ⟨A,c,by rw [hn],fun q=>?_⟩;have:=h0 (Option.isNone_iff_eq_none.1 q);exact List.length_eq_zero_iff.1 (by omega)
theorem VR.by_inv {w:World} {S:CSet} {m:RMap} {bs:List UInt8} {v:Value} (h:VR w S m (.by_ bs) v):∃ A c,v = .slice A bs.length c∧(A.isNone=true→bs=[]):=by
  cases h with
  | by_ hn hc hm h0 hA =>
    rename_i A n c;refine ⟨A,c,by rw [hn],fun q=>?_⟩;have:=h0 (Option.isNone_iff_eq_none.1 q);exact List.length_eq_zero_iff.1 (by omega)
def isB:AV→Bool
  | .by_ _=>true
  | .li _ _=>true
  | _=>false
section
variable {P:Program} {ty:Ty} {X:Cx} {Q:Exit→Act→World→Prop}
theorem WA.nilTest {s:St} {id t t2 e a d1 d2:Nat} {o1 o2:Oper} {y:Code} {x:AV} (hT:TysOK P ty) (ht:P.underlying t=some (.slice e)) (h1:o1.op = .move (.tmp a)) (g1:o1.guard=none) (e1:o1.dst=some d1) (h2:o2.op = .binOp .eql t (.tmp d1) (.const (.slice none 0 0)) t2) (g2:o2.guard=none) (e2:o2.dst=some d2)
    (hx:gt s.tm a=x) (hi:isB x=true) (hd1:d1<s.sz) (hd2:d2<s.sz) (h:∀ b:Bool,(b=true→cN x=0)→WA P X y Q ⟨(d2,.lit (.bool b))::(d1,x)::s.tm,s.H,s.ctr+16,s.sz⟩):WA P X (.seq (.region id [o1,o2].toArray false) y) Q s:=by
  refine WA.seq fun ac w hR=>wp_region_list ?_;obtain ⟨S,m,hM,hm⟩:=hR.mem;refine wpList_step fun K hK=>?_;rw [if_pos (by simp [Region.wanted,g1])];have k1:evX ty (fun _ _ _=>none) s.H s.ctr (opnd s.tm) o1.op=some ⟨x,[],True⟩:=by
    simp only [evX,h1,evA,opnd,hx]
  refine evX_ok hT (σ:=fun _ _ _=>none) (fun _ _ _ _ _ _ h=>by cases h) hM (opnd_VR hM.gl.g hm) (fun i _=>hR.kl _ (Nat.le_add_right _ _)) k1 trivial fun v w1 hL=>hK _ _ ?_;have hR1:=hR.step (o:=o1) (out:=⟨x,[],True⟩) ⟨by rw [e1];simpa [dOK] using hd1,rfl⟩ hM hm hL;obtain ⟨S1,m1,hM1,hm1⟩:=hR1.mem;refine wpList_step fun K' hK'=>?_;rw [if_pos (by simp [Region.wanted,g2])];have hv:VR w1 S1 m1 x ((ac.put o1.dst v).eval (.tmp d1)):=by
    have:=hm1 d1;rw [stepS,e1,putT,gt,lk,if_pos rfl] at this;rw [e1];exact this
  have key:∃ A n c,(ac.put o1.dst v).eval (.tmp d1) = .slice A n c∧(A.isNone=true→cN x=0):=by
    cases x with
    | by_ bs =>
      obtain ⟨A,c,q1,q2⟩:=hv.by_inv;exact ⟨A,_,c,q1,fun q=>by rw [q2 q];rfl⟩
    | li es xs =>
      obtain ⟨A,c,q1,q2⟩:=hv.li_inv;exact ⟨A,_,c,q1,fun q=>by rw [q2 q];rfl⟩
    | _=>simp [isB] at hi
  obtain ⟨A,n,c,q1,q2⟩:=key;unfold Oper.wp;have hrun:(execOp (ac.put o1.dst v).eval o2).run P w1 = .ok (.value (.bool A.isNone)) w1:=by
    unfold execOp;rw [h2];simp only [Sem.run_bind,q1];have e3:(ac.put o1.dst v).eval (.const (.slice none 0 0)) = .slice none 0 0:=rfl;rw [e3];have e4:=Lib.run_eql_slice_nil (P:=P) w1 t e A n c 0 0 ht;simp [eqGuard,e4]
  rw [hrun];have hL2:Left X (stepS s o1 ⟨x,[],True⟩).H S1 m1 w1 ⟨.lit (.bool A.isNone),[],True⟩ (.bool A.isNone) w1:=⟨S1,m1,Adv.refl _ _ _,hM1,.lit _⟩;have hR2:=hR1.step (o:=o2) (out:=⟨.lit (.bool A.isNone),[],True⟩) ⟨by rw [e2];exact decide_eq_true hd2,rfl⟩ hM1 hm1 hL2;refine hK' _ _ (wpList_nil ?_);have:=h A.isNone q2;rw [e1,e2];simp only [stepS,e1,e2,putT,List.nil_append,Nat.add_assoc,Nat.reduceAdd] at hR2;exact this _ _ hR2
end
end Go.TravelAbs
