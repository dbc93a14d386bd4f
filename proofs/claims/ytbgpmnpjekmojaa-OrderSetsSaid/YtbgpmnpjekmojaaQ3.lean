/- Part 3 of the texts that the proof rests on: an abstract machine over pure values, what functions of the program come to. No condition. -/
import Derived.Test.YtbgpmnpjekmojaaQ2
import Derived.Test.YtbgpmnpjekmojaaProg
import Derived.RangeFuncBox
import Derived.Shelf.Abstract
import Derived.OwnWalkIn
import Derived.TacticsInMore
import Derived.LoopNIn
import Derived.LoopIn

set_option linter.unusedSimpArgs false
set_option linter.unusedVariables false
set_option linter.unnecessarySimpa false

/- PRINTED by gentab.py: the types that the functions use, as the machine sees them, and that they are so. -/
namespace Go.Vai
open Go.Proofs

theorem info_of {P : Program} {t : Nat} {i : TypeInfo} (h : P.types[t]? = some i) : P.info? t = some i := by
  have hlt := (Array.getElem?_eq_some_iff.1 h).1
  rw [Tables.info?, if_pos hlt, h]
def leaf (k : Nat) (ty : Ty) (t : Nat) : Option Ty := match Nat.beq t k with | true => some ty | false => none
def node (m : Nat) (a b : Nat → Option Ty) (t : Nat) : Option Ty := match Nat.blt t m with | true => a t | false => b t
theorem leaf_ok {P : Program} {k : Nat} {ty : Ty} (h : TyOk P k ty) : ∀ t u, leaf k ty t = some u → TyOk P t u := fun t u hu => by
  unfold leaf at hu
  split at hu
  · rename_i hb
    cases hu
    rw [Nat.eq_of_beq_eq_true hb]
    exact h
  · cases hu
theorem node_ok {P : Program} {m : Nat} {a b : Nat → Option Ty} (ha : ∀ t u, a t = some u → TyOk P t u) (hb : ∀ t u, b t = some u → TyOk P t u) : ∀ t u, node m a b t = some u → TyOk P t u := fun t u hu => by
  unfold node at hu
  split at hu
  · exact ha t u hu
  · exact hb t u hu

theorem inf2 : (Try.prog.info? 2).map (·.size) = some 1 := (congrArg (Option.map _) (info_of Try.type2)).trans rfl
theorem inf3 : (Try.prog.info? 3).map (·.size) = some 1 := (congrArg (Option.map _) (info_of Try.type3)).trans rfl
theorem inf4 : (Try.prog.info? 4).map (·.size) = some 1 := (congrArg (Option.map _) (info_of Try.type4)).trans rfl
theorem inf5 : (Try.prog.info? 5).map (·.size) = some 1 := (congrArg (Option.map _) (info_of Try.type5)).trans rfl
theorem inf6 : (Try.prog.info? 6).map (·.size) = some 1 := (congrArg (Option.map _) (info_of Try.type6)).trans rfl
theorem inf9 : (Try.prog.info? 9).map (·.size) = some 1 := (congrArg (Option.map _) (info_of Try.type9)).trans rfl
theorem inf12 : (Try.prog.info? 12).map (·.size) = some 1 := (congrArg (Option.map _) (info_of Try.type12)).trans rfl
theorem inf17 : (Try.prog.info? 17).map (·.size) = some 1 := (congrArg (Option.map _) (info_of Try.type17)).trans rfl
theorem inf22 : (Try.prog.info? 22).map (·.size) = some 1 := (congrArg (Option.map _) (info_of Try.type22)).trans rfl
theorem inf23 : (Try.prog.info? 23).map (·.size) = some 1 := (congrArg (Option.map _) (info_of Try.type23)).trans rfl
theorem inf25 : (Try.prog.info? 25).map (·.size) = some 6 := (congrArg (Option.map _) (info_of Try.type25)).trans rfl
theorem inf36 : (Try.prog.info? 36).map (·.size) = some 1 := (congrArg (Option.map _) (info_of Try.type36)).trans rfl
theorem inf128 : (Try.prog.info? 128).map (·.size) = some 1 := (congrArg (Option.map _) (info_of Try.type128)).trans rfl
theorem inf129 : (Try.prog.info? 129).map (·.size) = some 1 := (congrArg (Option.map _) (info_of Try.type129)).trans rfl
theorem inf130 : (Try.prog.info? 130).map (·.size) = some 1 := (congrArg (Option.map _) (info_of Try.type130)).trans rfl
theorem inf131 : (Try.prog.info? 131).map (·.size) = some 1 := (congrArg (Option.map _) (info_of Try.type131)).trans rfl
theorem inf132 : (Try.prog.info? 132).map (·.size) = some 1 := (congrArg (Option.map _) (info_of Try.type132)).trans rfl
theorem inf133 : (Try.prog.info? 133).map (·.size) = some 1 := (congrArg (Option.map _) (info_of Try.type133)).trans rfl
theorem inf134 : (Try.prog.info? 134).map (·.size) = some 1 := (congrArg (Option.map _) (info_of Try.type134)).trans rfl
def ty1 : Ty := ⟨1, false, [.s .nilFunc], [], 0, 0, .func⟩
theorem ty1_ok : TyOk Try.prog 1 ty1 := ⟨(congrArg (Option.map _) (info_of Try.type1)).trans rfl, rfl, rfl, (congrArg (Option.map isAggD) Try.underlying1).trans rfl, fun _ => rfl, ⟨_, _, _, Try.underlying1⟩⟩
def ty2 : Ty := ⟨1, false, [.s (.int .i64 0)], [], 0, 0, (.int .i64)⟩
theorem ty2_ok : TyOk Try.prog 2 ty2 := ⟨(congrArg (Option.map _) (info_of Try.type2)).trans rfl, rfl, rfl, (congrArg (Option.map isAggD) Try.underlying2).trans rfl, fun _ => rfl, Try.underlying2⟩
def ty3 : Ty := ⟨1, false, [.s (.int .i64 0)], [], 0, 0, (.int .i64)⟩
theorem ty3_ok : TyOk Try.prog 3 ty3 := ⟨(congrArg (Option.map _) (info_of Try.type3)).trans rfl, rfl, rfl, (congrArg (Option.map isAggD) Try.underlying3).trans rfl, fun _ => rfl, Try.underlying3⟩
def ty4 : Ty := ⟨1, false, [.s (.bool false)], [], 0, 0, .bool⟩
theorem ty4_ok : TyOk Try.prog 4 ty4 := ⟨(congrArg (Option.map _) (info_of Try.type4)).trans rfl, rfl, rfl, (congrArg (Option.map isAggD) Try.underlying4).trans rfl, fun _ => rfl, Try.underlying4⟩
def ty5 : Ty := ⟨1, false, [.s (.int .u8 0)], [], 0, 0, (.int .u8)⟩
theorem ty5_ok : TyOk Try.prog 5 ty5 := ⟨(congrArg (Option.map _) (info_of Try.type5)).trans rfl, rfl, rfl, (congrArg (Option.map isAggD) Try.underlying5).trans rfl, fun _ => rfl, Try.underlying5⟩
def ty6 : Ty := ⟨1, false, [.s (.int .u8 0)], [], 0, 0, (.int .u8)⟩
theorem ty6_ok : TyOk Try.prog 6 ty6 := ⟨(congrArg (Option.map _) (info_of Try.type6)).trans rfl, rfl, rfl, (congrArg (Option.map isAggD) Try.underlying6).trans rfl, fun _ => rfl, Try.underlying6⟩
def ty7 : Ty := ⟨4, true, [.s (.int .i64 0), .s (.int .i64 0), .s (.bool false), .s (.int .u8 0)], [(0, 1), (1, 1), (2, 1), (3, 1)], 0, 0, .struct⟩
theorem ty7_ok : TyOk Try.prog 7 ty7 := ⟨(congrArg (Option.map _) (info_of Try.type7)).trans rfl, rfl, rfl, (congrArg (Option.map isAggD) Try.underlying7).trans rfl, (fun h => by cases h), ⟨_, Try.underlying7, by show [(0, (Try.prog.info? 2).map (·.size)), (1, (Try.prog.info? 3).map (·.size)), (2, (Try.prog.info? 4).map (·.size)), (3, (Try.prog.info? 6).map (·.size))] = _; rw [inf2, inf3, inf4, inf6]; rfl, rfl⟩⟩
def ty8 : Ty := ⟨4, true, [.s (.int .i64 0), .s (.int .i64 0), .s (.bool false), .s (.int .u8 0)], [(0, 1), (1, 1), (2, 1), (3, 1)], 0, 0, .struct⟩
theorem ty8_ok : TyOk Try.prog 8 ty8 := ⟨(congrArg (Option.map _) (info_of Try.type8)).trans rfl, rfl, rfl, (congrArg (Option.map isAggD) Try.underlying8).trans rfl, (fun h => by cases h), ⟨_, Try.underlying8, by show [(0, (Try.prog.info? 2).map (·.size)), (1, (Try.prog.info? 3).map (·.size)), (2, (Try.prog.info? 4).map (·.size)), (3, (Try.prog.info? 6).map (·.size))] = _; rw [inf2, inf3, inf4, inf6]; rfl, rfl⟩⟩
def ty9 : Ty := ⟨1, false, [.s (.string ⟨#[]⟩)], [], 0, 0, .string⟩
theorem ty9_ok : TyOk Try.prog 9 ty9 := ⟨(congrArg (Option.map _) (info_of Try.type9)).trans rfl, rfl, rfl, (congrArg (Option.map isAggD) Try.underlying9).trans rfl, fun _ => rfl, Try.underlying9⟩
def ty10 : Ty := ⟨1, false, [.s (.string ⟨#[]⟩)], [], 0, 0, .string⟩
theorem ty10_ok : TyOk Try.prog 10 ty10 := ⟨(congrArg (Option.map _) (info_of Try.type10)).trans rfl, rfl, rfl, (congrArg (Option.map isAggD) Try.underlying10).trans rfl, fun _ => rfl, Try.underlying10⟩
def ty11 : Ty := ⟨1, false, [.s (.string ⟨#[]⟩)], [], 0, 0, .string⟩
theorem ty11_ok : TyOk Try.prog 11 ty11 := ⟨(congrArg (Option.map _) (info_of Try.type11)).trans rfl, rfl, rfl, (congrArg (Option.map isAggD) Try.underlying11).trans rfl, fun _ => rfl, Try.underlying11⟩
def ty12 : Ty := ⟨1, false, [.s (.int .u64 0)], [], 0, 0, (.int .u64)⟩
theorem ty12_ok : TyOk Try.prog 12 ty12 := ⟨(congrArg (Option.map _) (info_of Try.type12)).trans rfl, rfl, rfl, (congrArg (Option.map isAggD) Try.underlying12).trans rfl, fun _ => rfl, Try.underlying12⟩
def ty13 : Ty := ⟨2, true, [.s (.string ⟨#[]⟩), .s (.int .u64 0)], [(0, 1), (1, 1)], 0, 0, .struct⟩
theorem ty13_ok : TyOk Try.prog 13 ty13 := ⟨(congrArg (Option.map _) (info_of Try.type13)).trans rfl, rfl, rfl, (congrArg (Option.map isAggD) Try.underlying13).trans rfl, (fun h => by cases h), ⟨_, Try.underlying13, by show [(0, (Try.prog.info? 9).map (·.size)), (1, (Try.prog.info? 12).map (·.size))] = _; rw [inf9, inf12]; rfl, rfl⟩⟩
def ty14 : Ty := ⟨2, true, [.s (.string ⟨#[]⟩), .s (.int .u64 0)], [(0, 1), (1, 1)], 0, 0, .struct⟩
theorem ty14_ok : TyOk Try.prog 14 ty14 := ⟨(congrArg (Option.map _) (info_of Try.type14)).trans rfl, rfl, rfl, (congrArg (Option.map isAggD) Try.underlying14).trans rfl, (fun h => by cases h), ⟨_, Try.underlying14, by show [(0, (Try.prog.info? 9).map (·.size)), (1, (Try.prog.info? 12).map (·.size))] = _; rw [inf9, inf12]; rfl, rfl⟩⟩
def ty15 : Ty := ⟨1, false, [.s (.pointer none)], [], 0, 0, .other⟩
theorem ty15_ok : TyOk Try.prog 15 ty15 := ⟨(congrArg (Option.map _) (info_of Try.type15)).trans rfl, rfl, rfl, (congrArg (Option.map isAggD) Try.underlying15).trans rfl, fun _ => rfl, trivial⟩
def ty16 : Ty := ⟨1, false, [.s (.pointer none)], [], 0, 0, .other⟩
theorem ty16_ok : TyOk Try.prog 16 ty16 := ⟨(congrArg (Option.map _) (info_of Try.type16)).trans rfl, rfl, rfl, (congrArg (Option.map isAggD) Try.underlying16).trans rfl, fun _ => rfl, trivial⟩
def ty17 : Ty := ⟨1, false, [.s (.pointer none)], [], 0, 0, .other⟩
theorem ty17_ok : TyOk Try.prog 17 ty17 := ⟨(congrArg (Option.map _) (info_of Try.type17)).trans rfl, rfl, rfl, (congrArg (Option.map isAggD) Try.underlying17).trans rfl, fun _ => rfl, trivial⟩
def ty18 : Ty := ⟨1, true, [.s (.pointer none)], [(0, 1)], 0, 0, .struct⟩
theorem ty18_ok : TyOk Try.prog 18 ty18 := ⟨(congrArg (Option.map _) (info_of Try.type18)).trans rfl, rfl, rfl, (congrArg (Option.map isAggD) Try.underlying18).trans rfl, (fun h => by cases h), ⟨_, Try.underlying18, by show [(0, (Try.prog.info? 17).map (·.size))] = _; rw [inf17]; rfl, rfl⟩⟩
def ty19 : Ty := ⟨1, true, [.s (.pointer none)], [(0, 1)], 0, 0, .struct⟩
theorem ty19_ok : TyOk Try.prog 19 ty19 := ⟨(congrArg (Option.map _) (info_of Try.type19)).trans rfl, rfl, rfl, (congrArg (Option.map isAggD) Try.underlying19).trans rfl, (fun h => by cases h), ⟨_, Try.underlying19, by show [(0, (Try.prog.info? 17).map (·.size))] = _; rw [inf17]; rfl, rfl⟩⟩
def ty21 : Ty := ⟨1, false, [.s (.int .i32 0)], [], 0, 0, (.int .i32)⟩
theorem ty21_ok : TyOk Try.prog 21 ty21 := ⟨(congrArg (Option.map _) (info_of Try.type21)).trans rfl, rfl, rfl, (congrArg (Option.map isAggD) Try.underlying21).trans rfl, fun _ => rfl, Try.underlying21⟩
def ty22 : Ty := ⟨1, false, [.s (.int .u64 0)], [], 0, 0, (.int .u64)⟩
theorem ty22_ok : TyOk Try.prog 22 ty22 := ⟨(congrArg (Option.map _) (info_of Try.type22)).trans rfl, rfl, rfl, (congrArg (Option.map isAggD) Try.underlying22).trans rfl, fun _ => rfl, Try.underlying22⟩
def ty23 : Ty := ⟨1, false, [.slc 6 [] true], [], 6, 72, .slice⟩
theorem ty23_ok : TyOk Try.prog 23 ty23 := ⟨(congrArg (Option.map _) (info_of Try.type23)).trans rfl, rfl, rfl, (congrArg (Option.map isAggD) Try.underlying23).trans rfl, fun _ => rfl, ⟨25, _, Try.underlying23, (congrArg (Option.map _) (info_of Try.type25)).trans rfl, rfl, rfl, rfl, rfl⟩⟩
def ty24 : Ty := ⟨6, true, [.s (.int .i64 0), .s (.string ⟨#[]⟩), .s (.int .i64 0), .s (.int .u64 0), .s (.int .u64 0), .slc 6 [] true], [(0, 1), (1, 1), (2, 1), (3, 1), (4, 1), (5, 1)], 0, 0, .struct⟩
theorem ty24_ok : TyOk Try.prog 24 ty24 := ⟨(congrArg (Option.map _) (info_of Try.type24)).trans rfl, rfl, rfl, (congrArg (Option.map isAggD) Try.underlying24).trans rfl, (fun h => by cases h), ⟨_, Try.underlying24, by show [(0, (Try.prog.info? 3).map (·.size)), (1, (Try.prog.info? 9).map (·.size)), (2, (Try.prog.info? 2).map (·.size)), (3, (Try.prog.info? 22).map (·.size)), (4, (Try.prog.info? 22).map (·.size)), (5, (Try.prog.info? 23).map (·.size))] = _; rw [inf3, inf9, inf2, inf22, inf23]; rfl, rfl⟩⟩
def ty25 : Ty := ⟨6, true, [.s (.int .i64 0), .s (.string ⟨#[]⟩), .s (.int .i64 0), .s (.int .u64 0), .s (.int .u64 0), .slc 6 [] true], [(0, 1), (1, 1), (2, 1), (3, 1), (4, 1), (5, 1)], 0, 0, .struct⟩
theorem ty25_ok : TyOk Try.prog 25 ty25 := ⟨(congrArg (Option.map _) (info_of Try.type25)).trans rfl, rfl, rfl, (congrArg (Option.map isAggD) Try.underlying25).trans rfl, (fun h => by cases h), ⟨_, Try.underlying25, by show [(0, (Try.prog.info? 3).map (·.size)), (1, (Try.prog.info? 9).map (·.size)), (2, (Try.prog.info? 2).map (·.size)), (3, (Try.prog.info? 22).map (·.size)), (4, (Try.prog.info? 22).map (·.size)), (5, (Try.prog.info? 23).map (·.size))] = _; rw [inf3, inf9, inf2, inf22, inf23]; rfl, rfl⟩⟩
def ty27 : Ty := ⟨1, false, [.s .nilFunc], [], 0, 0, .func⟩
theorem ty27_ok : TyOk Try.prog 27 ty27 := ⟨(congrArg (Option.map _) (info_of Try.type27)).trans rfl, rfl, rfl, (congrArg (Option.map isAggD) Try.underlying27).trans rfl, fun _ => rfl, ⟨_, _, _, Try.underlying27⟩⟩
def ty28 : Ty := ⟨1, false, [.s .nilFunc], [], 0, 0, .func⟩
theorem ty28_ok : TyOk Try.prog 28 ty28 := ⟨(congrArg (Option.map _) (info_of Try.type28)).trans rfl, rfl, rfl, (congrArg (Option.map isAggD) Try.underlying28).trans rfl, fun _ => rfl, ⟨_, _, _, Try.underlying28⟩⟩
def ty29 : Ty := ⟨1, false, [.s .nilFunc], [], 0, 0, .func⟩
theorem ty29_ok : TyOk Try.prog 29 ty29 := ⟨(congrArg (Option.map _) (info_of Try.type29)).trans rfl, rfl, rfl, (congrArg (Option.map isAggD) Try.underlying29).trans rfl, fun _ => rfl, ⟨_, _, _, Try.underlying29⟩⟩
def ty30 : Ty := ⟨1, false, [.s .nilFunc], [], 0, 0, .func⟩
theorem ty30_ok : TyOk Try.prog 30 ty30 := ⟨(congrArg (Option.map _) (info_of Try.type30)).trans rfl, rfl, rfl, (congrArg (Option.map isAggD) Try.underlying30).trans rfl, fun _ => rfl, ⟨_, _, _, Try.underlying30⟩⟩
def ty31 : Ty := ⟨1, false, [.s .nilFunc], [], 0, 0, .func⟩
theorem ty31_ok : TyOk Try.prog 31 ty31 := ⟨(congrArg (Option.map _) (info_of Try.type31)).trans rfl, rfl, rfl, (congrArg (Option.map isAggD) Try.underlying31).trans rfl, fun _ => rfl, ⟨_, _, _, Try.underlying31⟩⟩
def ty32 : Ty := ⟨1, false, [.s .nilFunc], [], 0, 0, .func⟩
theorem ty32_ok : TyOk Try.prog 32 ty32 := ⟨(congrArg (Option.map _) (info_of Try.type32)).trans rfl, rfl, rfl, (congrArg (Option.map isAggD) Try.underlying32).trans rfl, fun _ => rfl, ⟨_, _, _, Try.underlying32⟩⟩
def ty33 : Ty := ⟨1, false, [.s .nilFunc], [], 0, 0, .func⟩
theorem ty33_ok : TyOk Try.prog 33 ty33 := ⟨(congrArg (Option.map _) (info_of Try.type33)).trans rfl, rfl, rfl, (congrArg (Option.map isAggD) Try.underlying33).trans rfl, fun _ => rfl, ⟨_, _, _, Try.underlying33⟩⟩
def ty34 : Ty := ⟨1, false, [.s .nilFunc], [], 0, 0, .func⟩
theorem ty34_ok : TyOk Try.prog 34 ty34 := ⟨(congrArg (Option.map _) (info_of Try.type34)).trans rfl, rfl, rfl, (congrArg (Option.map isAggD) Try.underlying34).trans rfl, fun _ => rfl, ⟨_, _, _, Try.underlying34⟩⟩
def ty35 : Ty := ⟨1, false, [.s .nilFunc], [], 0, 0, .func⟩
theorem ty35_ok : TyOk Try.prog 35 ty35 := ⟨(congrArg (Option.map _) (info_of Try.type35)).trans rfl, rfl, rfl, (congrArg (Option.map isAggD) Try.underlying35).trans rfl, fun _ => rfl, ⟨_, _, _, Try.underlying35⟩⟩
def ty36 : Ty := ⟨1, false, [.s (.int .i64 0)], [], 0, 0, (.int .i64)⟩
theorem ty36_ok : TyOk Try.prog 36 ty36 := ⟨(congrArg (Option.map _) (info_of Try.type36)).trans rfl, rfl, rfl, (congrArg (Option.map isAggD) Try.underlying36).trans rfl, fun _ => rfl, Try.underlying36⟩
def ty37 : Ty := ⟨1, false, [.s .nilFunc], [], 0, 0, .func⟩
theorem ty37_ok : TyOk Try.prog 37 ty37 := ⟨(congrArg (Option.map _) (info_of Try.type37)).trans rfl, rfl, rfl, (congrArg (Option.map isAggD) Try.underlying37).trans rfl, fun _ => rfl, ⟨_, _, _, Try.underlying37⟩⟩
def ty38 : Ty := ⟨1, false, [.s .nilFunc], [], 0, 0, .func⟩
theorem ty38_ok : TyOk Try.prog 38 ty38 := ⟨(congrArg (Option.map _) (info_of Try.type38)).trans rfl, rfl, rfl, (congrArg (Option.map isAggD) Try.underlying38).trans rfl, fun _ => rfl, ⟨_, _, _, Try.underlying38⟩⟩
def ty39 : Ty := ⟨6, true, [.s (.int .i64 0), .s (.int .i64 0), .s (.int .i64 0), .s (.int .i64 0), .s (.int .i64 0), .s (.int .i64 0)], [], 1, 0, (.array 6)⟩
theorem ty39_ok : TyOk Try.prog 39 ty39 := ⟨(congrArg (Option.map _) (info_of Try.type39)).trans rfl, rfl, rfl, (congrArg (Option.map isAggD) Try.underlying39).trans rfl, (fun h => by cases h), ⟨3, Try.underlying39, inf3, (congrArg (Option.map isAggD) Try.underlying3).trans rfl, rfl⟩⟩
def ty40 : Ty := ⟨1, false, [.s .nilFunc], [], 0, 0, .func⟩
theorem ty40_ok : TyOk Try.prog 40 ty40 := ⟨(congrArg (Option.map _) (info_of Try.type40)).trans rfl, rfl, rfl, (congrArg (Option.map isAggD) Try.underlying40).trans rfl, fun _ => rfl, ⟨_, _, _, Try.underlying40⟩⟩
def ty41 : Ty := ⟨1, false, [.s .nilFunc], [], 0, 0, .func⟩
theorem ty41_ok : TyOk Try.prog 41 ty41 := ⟨(congrArg (Option.map _) (info_of Try.type41)).trans rfl, rfl, rfl, (congrArg (Option.map isAggD) Try.underlying41).trans rfl, fun _ => rfl, ⟨_, _, _, Try.underlying41⟩⟩
def ty42 : Ty := ⟨1, false, [.s .nilFunc], [], 0, 0, .func⟩
theorem ty42_ok : TyOk Try.prog 42 ty42 := ⟨(congrArg (Option.map _) (info_of Try.type42)).trans rfl, rfl, rfl, (congrArg (Option.map isAggD) Try.underlying42).trans rfl, fun _ => rfl, ⟨_, _, _, Try.underlying42⟩⟩
def ty43 : Ty := ⟨1, false, [.s .nilFunc], [], 0, 0, .func⟩
theorem ty43_ok : TyOk Try.prog 43 ty43 := ⟨(congrArg (Option.map _) (info_of Try.type43)).trans rfl, rfl, rfl, (congrArg (Option.map isAggD) Try.underlying43).trans rfl, fun _ => rfl, ⟨_, _, _, Try.underlying43⟩⟩
def ty44 : Ty := ⟨1, false, [.s .nilFunc], [], 0, 0, .func⟩
theorem ty44_ok : TyOk Try.prog 44 ty44 := ⟨(congrArg (Option.map _) (info_of Try.type44)).trans rfl, rfl, rfl, (congrArg (Option.map isAggD) Try.underlying44).trans rfl, fun _ => rfl, ⟨_, _, _, Try.underlying44⟩⟩
def ty45 : Ty := ⟨1, false, [.s .nilFunc], [], 0, 0, .func⟩
theorem ty45_ok : TyOk Try.prog 45 ty45 := ⟨(congrArg (Option.map _) (info_of Try.type45)).trans rfl, rfl, rfl, (congrArg (Option.map isAggD) Try.underlying45).trans rfl, fun _ => rfl, ⟨_, _, _, Try.underlying45⟩⟩
def ty47 : Ty := ⟨1, false, [.s .nilFunc], [], 0, 0, .func⟩
theorem ty47_ok : TyOk Try.prog 47 ty47 := ⟨(congrArg (Option.map _) (info_of Try.type47)).trans rfl, rfl, rfl, (congrArg (Option.map isAggD) Try.underlying47).trans rfl, fun _ => rfl, ⟨_, _, _, Try.underlying47⟩⟩
def ty48 : Ty := ⟨1, false, [.s .nilFunc], [], 0, 0, .func⟩
theorem ty48_ok : TyOk Try.prog 48 ty48 := ⟨(congrArg (Option.map _) (info_of Try.type48)).trans rfl, rfl, rfl, (congrArg (Option.map isAggD) Try.underlying48).trans rfl, fun _ => rfl, ⟨_, _, _, Try.underlying48⟩⟩
def ty49 : Ty := ⟨1, false, [.s .nilFunc], [], 0, 0, .func⟩
theorem ty49_ok : TyOk Try.prog 49 ty49 := ⟨(congrArg (Option.map _) (info_of Try.type49)).trans rfl, rfl, rfl, (congrArg (Option.map isAggD) Try.underlying49).trans rfl, fun _ => rfl, ⟨_, _, _, Try.underlying49⟩⟩
def ty50 : Ty := ⟨1, false, [.s .nilFunc], [], 0, 0, .func⟩
theorem ty50_ok : TyOk Try.prog 50 ty50 := ⟨(congrArg (Option.map _) (info_of Try.type50)).trans rfl, rfl, rfl, (congrArg (Option.map isAggD) Try.underlying50).trans rfl, fun _ => rfl, ⟨_, _, _, Try.underlying50⟩⟩
def ty51 : Ty := ⟨2, true, [.s (.string ⟨#[]⟩), .s (.string ⟨#[]⟩)], [], 1, 0, (.array 2)⟩
theorem ty51_ok : TyOk Try.prog 51 ty51 := ⟨(congrArg (Option.map _) (info_of Try.type51)).trans rfl, rfl, rfl, (congrArg (Option.map isAggD) Try.underlying51).trans rfl, (fun h => by cases h), ⟨9, Try.underlying51, inf9, (congrArg (Option.map isAggD) Try.underlying9).trans rfl, rfl⟩⟩
def ty52 : Ty := ⟨1, false, [.s .nilFunc], [], 0, 0, .func⟩
theorem ty52_ok : TyOk Try.prog 52 ty52 := ⟨(congrArg (Option.map _) (info_of Try.type52)).trans rfl, rfl, rfl, (congrArg (Option.map isAggD) Try.underlying52).trans rfl, fun _ => rfl, ⟨_, _, _, Try.underlying52⟩⟩
def ty53 : Ty := ⟨1, false, [.s .nilFunc], [], 0, 0, .func⟩
theorem ty53_ok : TyOk Try.prog 53 ty53 := ⟨(congrArg (Option.map _) (info_of Try.type53)).trans rfl, rfl, rfl, (congrArg (Option.map isAggD) Try.underlying53).trans rfl, fun _ => rfl, ⟨_, _, _, Try.underlying53⟩⟩
def ty54 : Ty := ⟨1, false, [.s .nilFunc], [], 0, 0, .func⟩
theorem ty54_ok : TyOk Try.prog 54 ty54 := ⟨(congrArg (Option.map _) (info_of Try.type54)).trans rfl, rfl, rfl, (congrArg (Option.map isAggD) Try.underlying54).trans rfl, fun _ => rfl, ⟨_, _, _, Try.underlying54⟩⟩
def ty55 : Ty := ⟨1, false, [.s .nilFunc], [], 0, 0, .func⟩
theorem ty55_ok : TyOk Try.prog 55 ty55 := ⟨(congrArg (Option.map _) (info_of Try.type55)).trans rfl, rfl, rfl, (congrArg (Option.map isAggD) Try.underlying55).trans rfl, fun _ => rfl, ⟨_, _, _, Try.underlying55⟩⟩
def ty56 : Ty := ⟨1, false, [.s .nilFunc], [], 0, 0, .func⟩
theorem ty56_ok : TyOk Try.prog 56 ty56 := ⟨(congrArg (Option.map _) (info_of Try.type56)).trans rfl, rfl, rfl, (congrArg (Option.map isAggD) Try.underlying56).trans rfl, fun _ => rfl, ⟨_, _, _, Try.underlying56⟩⟩
def ty57 : Ty := ⟨1, false, [.s (.pointer none)], [], 0, 0, .other⟩
theorem ty57_ok : TyOk Try.prog 57 ty57 := ⟨(congrArg (Option.map _) (info_of Try.type57)).trans rfl, rfl, rfl, (congrArg (Option.map isAggD) Try.underlying57).trans rfl, fun _ => rfl, trivial⟩
def ty58 : Ty := ⟨2, true, [.s (.int .i64 0), .s (.int .i64 0)], [(0, 1), (1, 1)], 0, 0, .struct⟩
theorem ty58_ok : TyOk Try.prog 58 ty58 := ⟨(congrArg (Option.map _) (info_of Try.type58)).trans rfl, rfl, rfl, (congrArg (Option.map isAggD) Try.underlying58).trans rfl, (fun h => by cases h), ⟨_, Try.underlying58, by show [(0, (Try.prog.info? 3).map (·.size)), (1, (Try.prog.info? 36).map (·.size))] = _; rw [inf3, inf36]; rfl, rfl⟩⟩
def ty59 : Ty := ⟨2, true, [.s (.int .i64 0), .s (.int .i64 0)], [(0, 1), (1, 1)], 0, 0, .struct⟩
theorem ty59_ok : TyOk Try.prog 59 ty59 := ⟨(congrArg (Option.map _) (info_of Try.type59)).trans rfl, rfl, rfl, (congrArg (Option.map isAggD) Try.underlying59).trans rfl, (fun h => by cases h), ⟨_, Try.underlying59, by show [(0, (Try.prog.info? 3).map (·.size)), (1, (Try.prog.info? 36).map (·.size))] = _; rw [inf3, inf36]; rfl, rfl⟩⟩
def ty60 : Ty := ⟨1, false, [.s .nilFunc], [], 0, 0, .func⟩
theorem ty60_ok : TyOk Try.prog 60 ty60 := ⟨(congrArg (Option.map _) (info_of Try.type60)).trans rfl, rfl, rfl, (congrArg (Option.map isAggD) Try.underlying60).trans rfl, fun _ => rfl, ⟨_, _, _, Try.underlying60⟩⟩
def ty61 : Ty := ⟨1, false, [.s .nilFunc], [], 0, 0, .func⟩
theorem ty61_ok : TyOk Try.prog 61 ty61 := ⟨(congrArg (Option.map _) (info_of Try.type61)).trans rfl, rfl, rfl, (congrArg (Option.map isAggD) Try.underlying61).trans rfl, fun _ => rfl, ⟨_, _, _, Try.underlying61⟩⟩
def ty62 : Ty := ⟨1, false, [.s .nilFunc], [], 0, 0, .func⟩
theorem ty62_ok : TyOk Try.prog 62 ty62 := ⟨(congrArg (Option.map _) (info_of Try.type62)).trans rfl, rfl, rfl, (congrArg (Option.map isAggD) Try.underlying62).trans rfl, fun _ => rfl, ⟨_, _, _, Try.underlying62⟩⟩
def ty63 : Ty := ⟨1, false, [.s .nilFunc], [], 0, 0, .func⟩
theorem ty63_ok : TyOk Try.prog 63 ty63 := ⟨(congrArg (Option.map _) (info_of Try.type63)).trans rfl, rfl, rfl, (congrArg (Option.map isAggD) Try.underlying63).trans rfl, fun _ => rfl, ⟨_, _, _, Try.underlying63⟩⟩
def ty64 : Ty := ⟨1, false, [.s (.complex .f64 0 0)], [], 0, 0, .other⟩
theorem ty64_ok : TyOk Try.prog 64 ty64 := ⟨(congrArg (Option.map _) (info_of Try.type64)).trans rfl, rfl, rfl, (congrArg (Option.map isAggD) Try.underlying64).trans rfl, fun _ => rfl, trivial⟩
def ty65 : Ty := ⟨1, false, [.s .nilFunc], [], 0, 0, .func⟩
theorem ty65_ok : TyOk Try.prog 65 ty65 := ⟨(congrArg (Option.map _) (info_of Try.type65)).trans rfl, rfl, rfl, (congrArg (Option.map isAggD) Try.underlying65).trans rfl, fun _ => rfl, ⟨_, _, _, Try.underlying65⟩⟩
def ty66 : Ty := ⟨12, true, [.s (.int .i64 0), .s (.string ⟨#[]⟩), .s (.int .i64 0), .s (.int .u64 0), .s (.int .u64 0), .slc 6 [] true, .s (.int .i64 0), .s (.string ⟨#[]⟩), .s (.int .i64 0), .s (.int .u64 0), .s (.int .u64 0), .slc 6 [] true], [], 6, 0, (.array 2)⟩
theorem ty66_ok : TyOk Try.prog 66 ty66 := ⟨(congrArg (Option.map _) (info_of Try.type66)).trans rfl, rfl, rfl, (congrArg (Option.map isAggD) Try.underlying66).trans rfl, (fun h => by cases h), ⟨25, Try.underlying66, inf25, (congrArg (Option.map isAggD) Try.underlying25).trans rfl, rfl⟩⟩
def ty68 : Ty := ⟨1, false, [.s .nilFunc], [], 0, 0, .func⟩
theorem ty68_ok : TyOk Try.prog 68 ty68 := ⟨(congrArg (Option.map _) (info_of Try.type68)).trans rfl, rfl, rfl, (congrArg (Option.map isAggD) Try.underlying68).trans rfl, fun _ => rfl, ⟨_, _, _, Try.underlying68⟩⟩
def ty69 : Ty := ⟨1, false, [.s .nilFunc], [], 0, 0, .func⟩
theorem ty69_ok : TyOk Try.prog 69 ty69 := ⟨(congrArg (Option.map _) (info_of Try.type69)).trans rfl, rfl, rfl, (congrArg (Option.map isAggD) Try.underlying69).trans rfl, fun _ => rfl, ⟨_, _, _, Try.underlying69⟩⟩
def ty71 : Ty := ⟨1, false, [.s .nilFunc], [], 0, 0, .func⟩
theorem ty71_ok : TyOk Try.prog 71 ty71 := ⟨(congrArg (Option.map _) (info_of Try.type71)).trans rfl, rfl, rfl, (congrArg (Option.map isAggD) Try.underlying71).trans rfl, fun _ => rfl, ⟨_, _, _, Try.underlying71⟩⟩
def ty72 : Ty := ⟨1, false, [.s .nilFunc], [], 0, 0, .func⟩
theorem ty72_ok : TyOk Try.prog 72 ty72 := ⟨(congrArg (Option.map _) (info_of Try.type72)).trans rfl, rfl, rfl, (congrArg (Option.map isAggD) Try.underlying72).trans rfl, fun _ => rfl, ⟨_, _, _, Try.underlying72⟩⟩
def ty73 : Ty := ⟨1, false, [.s .nilFunc], [], 0, 0, .func⟩
theorem ty73_ok : TyOk Try.prog 73 ty73 := ⟨(congrArg (Option.map _) (info_of Try.type73)).trans rfl, rfl, rfl, (congrArg (Option.map isAggD) Try.underlying73).trans rfl, fun _ => rfl, ⟨_, _, _, Try.underlying73⟩⟩
def ty74 : Ty := ⟨1, false, [.s .nilFunc], [], 0, 0, .func⟩
theorem ty74_ok : TyOk Try.prog 74 ty74 := ⟨(congrArg (Option.map _) (info_of Try.type74)).trans rfl, rfl, rfl, (congrArg (Option.map isAggD) Try.underlying74).trans rfl, fun _ => rfl, ⟨_, _, _, Try.underlying74⟩⟩
def ty75 : Ty := ⟨1, false, [.s .nilFunc], [], 0, 0, .func⟩
theorem ty75_ok : TyOk Try.prog 75 ty75 := ⟨(congrArg (Option.map _) (info_of Try.type75)).trans rfl, rfl, rfl, (congrArg (Option.map isAggD) Try.underlying75).trans rfl, fun _ => rfl, ⟨_, _, _, Try.underlying75⟩⟩
def ty76 : Ty := ⟨1, false, [.s .nilFunc], [], 0, 0, .func⟩
theorem ty76_ok : TyOk Try.prog 76 ty76 := ⟨(congrArg (Option.map _) (info_of Try.type76)).trans rfl, rfl, rfl, (congrArg (Option.map isAggD) Try.underlying76).trans rfl, fun _ => rfl, ⟨_, _, _, Try.underlying76⟩⟩
def ty77 : Ty := ⟨1, false, [.s .nilFunc], [], 0, 0, .func⟩
theorem ty77_ok : TyOk Try.prog 77 ty77 := ⟨(congrArg (Option.map _) (info_of Try.type77)).trans rfl, rfl, rfl, (congrArg (Option.map isAggD) Try.underlying77).trans rfl, fun _ => rfl, ⟨_, _, _, Try.underlying77⟩⟩
def ty78 : Ty := ⟨1, false, [.s .nilFunc], [], 0, 0, .func⟩
theorem ty78_ok : TyOk Try.prog 78 ty78 := ⟨(congrArg (Option.map _) (info_of Try.type78)).trans rfl, rfl, rfl, (congrArg (Option.map isAggD) Try.underlying78).trans rfl, fun _ => rfl, ⟨_, _, _, Try.underlying78⟩⟩
def ty79 : Ty := ⟨1, false, [.s .nilFunc], [], 0, 0, .func⟩
theorem ty79_ok : TyOk Try.prog 79 ty79 := ⟨(congrArg (Option.map _) (info_of Try.type79)).trans rfl, rfl, rfl, (congrArg (Option.map isAggD) Try.underlying79).trans rfl, fun _ => rfl, ⟨_, _, _, Try.underlying79⟩⟩
def ty80 : Ty := ⟨1, false, [.s .nilFunc], [], 0, 0, .func⟩
theorem ty80_ok : TyOk Try.prog 80 ty80 := ⟨(congrArg (Option.map _) (info_of Try.type80)).trans rfl, rfl, rfl, (congrArg (Option.map isAggD) Try.underlying80).trans rfl, fun _ => rfl, ⟨_, _, _, Try.underlying80⟩⟩
def ty82 : Ty := ⟨1, false, [.s .nilFunc], [], 0, 0, .func⟩
theorem ty82_ok : TyOk Try.prog 82 ty82 := ⟨(congrArg (Option.map _) (info_of Try.type82)).trans rfl, rfl, rfl, (congrArg (Option.map isAggD) Try.underlying82).trans rfl, fun _ => rfl, ⟨_, _, _, Try.underlying82⟩⟩
def ty83 : Ty := ⟨1, false, [.s .nilFunc], [], 0, 0, .func⟩
theorem ty83_ok : TyOk Try.prog 83 ty83 := ⟨(congrArg (Option.map _) (info_of Try.type83)).trans rfl, rfl, rfl, (congrArg (Option.map isAggD) Try.underlying83).trans rfl, fun _ => rfl, ⟨_, _, _, Try.underlying83⟩⟩
def ty84 : Ty := ⟨1, false, [.s .nilFunc], [], 0, 0, .func⟩
theorem ty84_ok : TyOk Try.prog 84 ty84 := ⟨(congrArg (Option.map _) (info_of Try.type84)).trans rfl, rfl, rfl, (congrArg (Option.map isAggD) Try.underlying84).trans rfl, fun _ => rfl, ⟨_, _, _, Try.underlying84⟩⟩
def ty85 : Ty := ⟨1, false, [.s .nilFunc], [], 0, 0, .func⟩
theorem ty85_ok : TyOk Try.prog 85 ty85 := ⟨(congrArg (Option.map _) (info_of Try.type85)).trans rfl, rfl, rfl, (congrArg (Option.map isAggD) Try.underlying85).trans rfl, fun _ => rfl, ⟨_, _, _, Try.underlying85⟩⟩
def ty86 : Ty := ⟨1, false, [.s .nilFunc], [], 0, 0, .func⟩
theorem ty86_ok : TyOk Try.prog 86 ty86 := ⟨(congrArg (Option.map _) (info_of Try.type86)).trans rfl, rfl, rfl, (congrArg (Option.map isAggD) Try.underlying86).trans rfl, fun _ => rfl, ⟨_, _, _, Try.underlying86⟩⟩
def ty87 : Ty := ⟨1, false, [.s (.float .f64 0)], [], 0, 0, (.float .f64)⟩
theorem ty87_ok : TyOk Try.prog 87 ty87 := ⟨(congrArg (Option.map _) (info_of Try.type87)).trans rfl, rfl, rfl, (congrArg (Option.map isAggD) Try.underlying87).trans rfl, fun _ => rfl, Try.underlying87⟩
def ty88 : Ty := ⟨1, false, [.s .nilFunc], [], 0, 0, .func⟩
theorem ty88_ok : TyOk Try.prog 88 ty88 := ⟨(congrArg (Option.map _) (info_of Try.type88)).trans rfl, rfl, rfl, (congrArg (Option.map isAggD) Try.underlying88).trans rfl, fun _ => rfl, ⟨_, _, _, Try.underlying88⟩⟩
def ty89 : Ty := ⟨7, true, [.s (.int .i64 0), .s (.string ⟨#[]⟩), .s (.int .i64 0), .s (.int .u64 0), .s (.int .u64 0), .slc 6 [] true, .s (.int .i64 0)], [(0, 6), (6, 1)], 0, 0, .struct⟩
theorem ty89_ok : TyOk Try.prog 89 ty89 := ⟨(congrArg (Option.map _) (info_of Try.type89)).trans rfl, rfl, rfl, (congrArg (Option.map isAggD) Try.underlying89).trans rfl, (fun h => by cases h), ⟨_, Try.underlying89, by show [(0, (Try.prog.info? 25).map (·.size)), (6, (Try.prog.info? 3).map (·.size))] = _; rw [inf25, inf3]; rfl, rfl⟩⟩
def ty90 : Ty := ⟨7, true, [.s (.int .i64 0), .s (.string ⟨#[]⟩), .s (.int .i64 0), .s (.int .u64 0), .s (.int .u64 0), .slc 6 [] true, .s (.int .i64 0)], [(0, 6), (6, 1)], 0, 0, .struct⟩
theorem ty90_ok : TyOk Try.prog 90 ty90 := ⟨(congrArg (Option.map _) (info_of Try.type90)).trans rfl, rfl, rfl, (congrArg (Option.map isAggD) Try.underlying90).trans rfl, (fun h => by cases h), ⟨_, Try.underlying90, by show [(0, (Try.prog.info? 25).map (·.size)), (6, (Try.prog.info? 3).map (·.size))] = _; rw [inf25, inf3]; rfl, rfl⟩⟩
def ty91 : Ty := ⟨1, false, [.slc 7 [] true], [], 7, 80, .slice⟩
theorem ty91_ok : TyOk Try.prog 91 ty91 := ⟨(congrArg (Option.map _) (info_of Try.type91)).trans rfl, rfl, rfl, (congrArg (Option.map isAggD) Try.underlying91).trans rfl, fun _ => rfl, ⟨90, _, Try.underlying91, (congrArg (Option.map _) (info_of Try.type90)).trans rfl, rfl, rfl, rfl, rfl⟩⟩
def ty92 : Ty := ⟨1, false, [.s .nilFunc], [], 0, 0, .func⟩
theorem ty92_ok : TyOk Try.prog 92 ty92 := ⟨(congrArg (Option.map _) (info_of Try.type92)).trans rfl, rfl, rfl, (congrArg (Option.map isAggD) Try.underlying92).trans rfl, fun _ => rfl, ⟨_, _, _, Try.underlying92⟩⟩
def ty93 : Ty := ⟨1, false, [.s .nilFunc], [], 0, 0, .func⟩
theorem ty93_ok : TyOk Try.prog 93 ty93 := ⟨(congrArg (Option.map _) (info_of Try.type93)).trans rfl, rfl, rfl, (congrArg (Option.map isAggD) Try.underlying93).trans rfl, fun _ => rfl, ⟨_, _, _, Try.underlying93⟩⟩
def ty95 : Ty := ⟨1, false, [.s .nilFunc], [], 0, 0, .func⟩
theorem ty95_ok : TyOk Try.prog 95 ty95 := ⟨(congrArg (Option.map _) (info_of Try.type95)).trans rfl, rfl, rfl, (congrArg (Option.map isAggD) Try.underlying95).trans rfl, fun _ => rfl, ⟨_, _, _, Try.underlying95⟩⟩
def ty96 : Ty := ⟨1, false, [.s .nilFunc], [], 0, 0, .func⟩
theorem ty96_ok : TyOk Try.prog 96 ty96 := ⟨(congrArg (Option.map _) (info_of Try.type96)).trans rfl, rfl, rfl, (congrArg (Option.map isAggD) Try.underlying96).trans rfl, fun _ => rfl, ⟨_, _, _, Try.underlying96⟩⟩
def ty97 : Ty := ⟨1, false, [.s .nilFunc], [], 0, 0, .func⟩
theorem ty97_ok : TyOk Try.prog 97 ty97 := ⟨(congrArg (Option.map _) (info_of Try.type97)).trans rfl, rfl, rfl, (congrArg (Option.map isAggD) Try.underlying97).trans rfl, fun _ => rfl, ⟨_, _, _, Try.underlying97⟩⟩
def ty98 : Ty := ⟨1, false, [.s .nilFunc], [], 0, 0, .func⟩
theorem ty98_ok : TyOk Try.prog 98 ty98 := ⟨(congrArg (Option.map _) (info_of Try.type98)).trans rfl, rfl, rfl, (congrArg (Option.map isAggD) Try.underlying98).trans rfl, fun _ => rfl, ⟨_, _, _, Try.underlying98⟩⟩
def ty99 : Ty := ⟨1, false, [.slc 1 [] true], [], 1, 8, .slice⟩
theorem ty99_ok : TyOk Try.prog 99 ty99 := ⟨(congrArg (Option.map _) (info_of Try.type99)).trans rfl, rfl, rfl, (congrArg (Option.map isAggD) Try.underlying99).trans rfl, fun _ => rfl, ⟨3, _, Try.underlying99, (congrArg (Option.map _) (info_of Try.type3)).trans rfl, rfl, rfl, rfl, rfl⟩⟩
def ty100 : Ty := ⟨1, false, [.s .nilFunc], [], 0, 0, .func⟩
theorem ty100_ok : TyOk Try.prog 100 ty100 := ⟨(congrArg (Option.map _) (info_of Try.type100)).trans rfl, rfl, rfl, (congrArg (Option.map isAggD) Try.underlying100).trans rfl, fun _ => rfl, ⟨_, _, _, Try.underlying100⟩⟩
def ty101 : Ty := ⟨1, false, [.s .nilFunc], [], 0, 0, .func⟩
theorem ty101_ok : TyOk Try.prog 101 ty101 := ⟨(congrArg (Option.map _) (info_of Try.type101)).trans rfl, rfl, rfl, (congrArg (Option.map isAggD) Try.underlying101).trans rfl, fun _ => rfl, ⟨_, _, _, Try.underlying101⟩⟩
def ty102 : Ty := ⟨1, false, [.s .nilFunc], [], 0, 0, .func⟩
theorem ty102_ok : TyOk Try.prog 102 ty102 := ⟨(congrArg (Option.map _) (info_of Try.type102)).trans rfl, rfl, rfl, (congrArg (Option.map isAggD) Try.underlying102).trans rfl, fun _ => rfl, ⟨_, _, _, Try.underlying102⟩⟩
def ty103 : Ty := ⟨1, false, [.s .nilFunc], [], 0, 0, .func⟩
theorem ty103_ok : TyOk Try.prog 103 ty103 := ⟨(congrArg (Option.map _) (info_of Try.type103)).trans rfl, rfl, rfl, (congrArg (Option.map isAggD) Try.underlying103).trans rfl, fun _ => rfl, ⟨_, _, _, Try.underlying103⟩⟩
def ty104 : Ty := ⟨1, false, [.s .nilFunc], [], 0, 0, .func⟩
theorem ty104_ok : TyOk Try.prog 104 ty104 := ⟨(congrArg (Option.map _) (info_of Try.type104)).trans rfl, rfl, rfl, (congrArg (Option.map isAggD) Try.underlying104).trans rfl, fun _ => rfl, ⟨_, _, _, Try.underlying104⟩⟩
def ty105 : Ty := ⟨1, false, [.s .nilFunc], [], 0, 0, .func⟩
theorem ty105_ok : TyOk Try.prog 105 ty105 := ⟨(congrArg (Option.map _) (info_of Try.type105)).trans rfl, rfl, rfl, (congrArg (Option.map isAggD) Try.underlying105).trans rfl, fun _ => rfl, ⟨_, _, _, Try.underlying105⟩⟩
def ty106 : Ty := ⟨1, false, [.s .nilFunc], [], 0, 0, .func⟩
theorem ty106_ok : TyOk Try.prog 106 ty106 := ⟨(congrArg (Option.map _) (info_of Try.type106)).trans rfl, rfl, rfl, (congrArg (Option.map isAggD) Try.underlying106).trans rfl, fun _ => rfl, ⟨_, _, _, Try.underlying106⟩⟩
def ty107 : Ty := ⟨1, false, [.s .nilFunc], [], 0, 0, .func⟩
theorem ty107_ok : TyOk Try.prog 107 ty107 := ⟨(congrArg (Option.map _) (info_of Try.type107)).trans rfl, rfl, rfl, (congrArg (Option.map isAggD) Try.underlying107).trans rfl, fun _ => rfl, ⟨_, _, _, Try.underlying107⟩⟩
def ty108 : Ty := ⟨1, false, [.s .nilFunc], [], 0, 0, .func⟩
theorem ty108_ok : TyOk Try.prog 108 ty108 := ⟨(congrArg (Option.map _) (info_of Try.type108)).trans rfl, rfl, rfl, (congrArg (Option.map isAggD) Try.underlying108).trans rfl, fun _ => rfl, ⟨_, _, _, Try.underlying108⟩⟩
def ty109 : Ty := ⟨1, false, [.s .nilFunc], [], 0, 0, .func⟩
theorem ty109_ok : TyOk Try.prog 109 ty109 := ⟨(congrArg (Option.map _) (info_of Try.type109)).trans rfl, rfl, rfl, (congrArg (Option.map isAggD) Try.underlying109).trans rfl, fun _ => rfl, ⟨_, _, _, Try.underlying109⟩⟩
def ty110 : Ty := ⟨1, false, [.s .nilFunc], [], 0, 0, .func⟩
theorem ty110_ok : TyOk Try.prog 110 ty110 := ⟨(congrArg (Option.map _) (info_of Try.type110)).trans rfl, rfl, rfl, (congrArg (Option.map isAggD) Try.underlying110).trans rfl, fun _ => rfl, ⟨_, _, _, Try.underlying110⟩⟩
def ty111 : Ty := ⟨1, false, [.s (.int .u64 0)], [], 0, 0, (.int .u64)⟩
theorem ty111_ok : TyOk Try.prog 111 ty111 := ⟨(congrArg (Option.map _) (info_of Try.type111)).trans rfl, rfl, rfl, (congrArg (Option.map isAggD) Try.underlying111).trans rfl, fun _ => rfl, Try.underlying111⟩
def ty112 : Ty := ⟨1, false, [.s .nilFunc], [], 0, 0, .func⟩
theorem ty112_ok : TyOk Try.prog 112 ty112 := ⟨(congrArg (Option.map _) (info_of Try.type112)).trans rfl, rfl, rfl, (congrArg (Option.map isAggD) Try.underlying112).trans rfl, fun _ => rfl, ⟨_, _, _, Try.underlying112⟩⟩
def ty113 : Ty := ⟨1, false, [.s .nilFunc], [], 0, 0, .func⟩
theorem ty113_ok : TyOk Try.prog 113 ty113 := ⟨(congrArg (Option.map _) (info_of Try.type113)).trans rfl, rfl, rfl, (congrArg (Option.map isAggD) Try.underlying113).trans rfl, fun _ => rfl, ⟨_, _, _, Try.underlying113⟩⟩
def ty115 : Ty := ⟨1, false, [.s .nilFunc], [], 0, 0, .func⟩
theorem ty115_ok : TyOk Try.prog 115 ty115 := ⟨(congrArg (Option.map _) (info_of Try.type115)).trans rfl, rfl, rfl, (congrArg (Option.map isAggD) Try.underlying115).trans rfl, fun _ => rfl, ⟨_, _, _, Try.underlying115⟩⟩
def ty116 : Ty := ⟨1, false, [.s .nilFunc], [], 0, 0, .func⟩
theorem ty116_ok : TyOk Try.prog 116 ty116 := ⟨(congrArg (Option.map _) (info_of Try.type116)).trans rfl, rfl, rfl, (congrArg (Option.map isAggD) Try.underlying116).trans rfl, fun _ => rfl, ⟨_, _, _, Try.underlying116⟩⟩
def ty117 : Ty := ⟨1, false, [.s .nilFunc], [], 0, 0, .func⟩
theorem ty117_ok : TyOk Try.prog 117 ty117 := ⟨(congrArg (Option.map _) (info_of Try.type117)).trans rfl, rfl, rfl, (congrArg (Option.map isAggD) Try.underlying117).trans rfl, fun _ => rfl, ⟨_, _, _, Try.underlying117⟩⟩
def ty118 : Ty := ⟨1, false, [.s .nilFunc], [], 0, 0, .func⟩
theorem ty118_ok : TyOk Try.prog 118 ty118 := ⟨(congrArg (Option.map _) (info_of Try.type118)).trans rfl, rfl, rfl, (congrArg (Option.map isAggD) Try.underlying118).trans rfl, fun _ => rfl, ⟨_, _, _, Try.underlying118⟩⟩
def ty119 : Ty := ⟨1, false, [.s .nilFunc], [], 0, 0, .func⟩
theorem ty119_ok : TyOk Try.prog 119 ty119 := ⟨(congrArg (Option.map _) (info_of Try.type119)).trans rfl, rfl, rfl, (congrArg (Option.map isAggD) Try.underlying119).trans rfl, fun _ => rfl, ⟨_, _, _, Try.underlying119⟩⟩
def ty120 : Ty := ⟨1, false, [.s .nilFunc], [], 0, 0, .func⟩
theorem ty120_ok : TyOk Try.prog 120 ty120 := ⟨(congrArg (Option.map _) (info_of Try.type120)).trans rfl, rfl, rfl, (congrArg (Option.map isAggD) Try.underlying120).trans rfl, fun _ => rfl, ⟨_, _, _, Try.underlying120⟩⟩
def ty121 : Ty := ⟨1, false, [.s .nilFunc], [], 0, 0, .func⟩
theorem ty121_ok : TyOk Try.prog 121 ty121 := ⟨(congrArg (Option.map _) (info_of Try.type121)).trans rfl, rfl, rfl, (congrArg (Option.map isAggD) Try.underlying121).trans rfl, fun _ => rfl, ⟨_, _, _, Try.underlying121⟩⟩
def ty122 : Ty := ⟨4, true, [.s (.pointer none), .s (.pointer none), .s (.pointer none), .s (.string ⟨#[]⟩)], [(0, 1), (1, 1), (2, 1), (3, 1)], 0, 0, .struct⟩
theorem ty122_ok : TyOk Try.prog 122 ty122 := ⟨(congrArg (Option.map _) (info_of Try.type122)).trans rfl, rfl, rfl, (congrArg (Option.map isAggD) Try.underlying122).trans rfl, (fun h => by cases h), ⟨_, Try.underlying122, by show [(0, (Try.prog.info? 17).map (·.size)), (1, (Try.prog.info? 17).map (·.size)), (2, (Try.prog.info? 17).map (·.size)), (3, (Try.prog.info? 9).map (·.size))] = _; rw [inf17, inf9]; rfl, rfl⟩⟩
def ty123 : Ty := ⟨4, true, [.s (.pointer none), .s (.pointer none), .s (.pointer none), .s (.string ⟨#[]⟩)], [(0, 1), (1, 1), (2, 1), (3, 1)], 0, 0, .struct⟩
theorem ty123_ok : TyOk Try.prog 123 ty123 := ⟨(congrArg (Option.map _) (info_of Try.type123)).trans rfl, rfl, rfl, (congrArg (Option.map isAggD) Try.underlying123).trans rfl, (fun h => by cases h), ⟨_, Try.underlying123, by show [(0, (Try.prog.info? 17).map (·.size)), (1, (Try.prog.info? 17).map (·.size)), (2, (Try.prog.info? 17).map (·.size)), (3, (Try.prog.info? 9).map (·.size))] = _; rw [inf17, inf9]; rfl, rfl⟩⟩
def ty127 : Ty := ⟨1, false, [.s .nilFunc], [], 0, 0, .func⟩
theorem ty127_ok : TyOk Try.prog 127 ty127 := ⟨(congrArg (Option.map _) (info_of Try.type127)).trans rfl, rfl, rfl, (congrArg (Option.map isAggD) Try.underlying127).trans rfl, fun _ => rfl, ⟨_, _, _, Try.underlying127⟩⟩
def ty128 : Ty := ⟨1, false, [.s (.int .u32 0)], [], 0, 0, (.int .u32)⟩
theorem ty128_ok : TyOk Try.prog 128 ty128 := ⟨(congrArg (Option.map _) (info_of Try.type128)).trans rfl, rfl, rfl, (congrArg (Option.map isAggD) Try.underlying128).trans rfl, fun _ => rfl, Try.underlying128⟩
def ty129 : Ty := ⟨1, false, [.s (.int .u8 0)], [], 0, 0, (.int .u8)⟩
theorem ty129_ok : TyOk Try.prog 129 ty129 := ⟨(congrArg (Option.map _) (info_of Try.type129)).trans rfl, rfl, rfl, (congrArg (Option.map isAggD) Try.underlying129).trans rfl, fun _ => rfl, Try.underlying129⟩
def ty130 : Ty := ⟨1, false, [.s (.int .u8 0)], [], 0, 0, (.int .u8)⟩
theorem ty130_ok : TyOk Try.prog 130 ty130 := ⟨(congrArg (Option.map _) (info_of Try.type130)).trans rfl, rfl, rfl, (congrArg (Option.map isAggD) Try.underlying130).trans rfl, fun _ => rfl, Try.underlying130⟩
def ty131 : Ty := ⟨1, false, [.s .nilFunc], [], 0, 0, .func⟩
theorem ty131_ok : TyOk Try.prog 131 ty131 := ⟨(congrArg (Option.map _) (info_of Try.type131)).trans rfl, rfl, rfl, (congrArg (Option.map isAggD) Try.underlying131).trans rfl, fun _ => rfl, ⟨_, _, _, Try.underlying131⟩⟩
def ty132 : Ty := ⟨1, false, [.s (.pointer none)], [], 0, 0, .other⟩
theorem ty132_ok : TyOk Try.prog 132 ty132 := ⟨(congrArg (Option.map _) (info_of Try.type132)).trans rfl, rfl, rfl, (congrArg (Option.map isAggD) Try.underlying132).trans rfl, fun _ => rfl, trivial⟩
def ty133 : Ty := ⟨1, false, [.s (.int .i32 0)], [], 0, 0, (.int .i32)⟩
theorem ty133_ok : TyOk Try.prog 133 ty133 := ⟨(congrArg (Option.map _) (info_of Try.type133)).trans rfl, rfl, rfl, (congrArg (Option.map isAggD) Try.underlying133).trans rfl, fun _ => rfl, Try.underlying133⟩
def ty134 : Ty := ⟨1, false, [.s (.int .i32 0)], [], 0, 0, (.int .i32)⟩
theorem ty134_ok : TyOk Try.prog 134 ty134 := ⟨(congrArg (Option.map _) (info_of Try.type134)).trans rfl, rfl, rfl, (congrArg (Option.map isAggD) Try.underlying134).trans rfl, fun _ => rfl, Try.underlying134⟩
def ty135 : Ty := ⟨11, true, [.s (.int .u64 0), .s (.int .u64 0), .s (.int .u32 0), .s (.int .u8 0), .s (.int .u8 0), .s (.int .u8 0), .s (.int .u8 0), .s .nilFunc, .s (.pointer none), .s (.int .i32 0), .s (.int .i32 0)], [(0, 1), (1, 1), (2, 1), (3, 1), (4, 1), (5, 1), (6, 1), (7, 1), (8, 1), (9, 1), (10, 1)], 0, 0, .struct⟩
theorem ty135_ok : TyOk Try.prog 135 ty135 := ⟨(congrArg (Option.map _) (info_of Try.type135)).trans rfl, rfl, rfl, (congrArg (Option.map isAggD) Try.underlying135).trans rfl, (fun h => by cases h), ⟨_, Try.underlying135, by show [(0, (Try.prog.info? 12).map (·.size)), (1, (Try.prog.info? 12).map (·.size)), (2, (Try.prog.info? 128).map (·.size)), (3, (Try.prog.info? 129).map (·.size)), (4, (Try.prog.info? 5).map (·.size)), (5, (Try.prog.info? 5).map (·.size)), (6, (Try.prog.info? 130).map (·.size)), (7, (Try.prog.info? 131).map (·.size)), (8, (Try.prog.info? 132).map (·.size)), (9, (Try.prog.info? 133).map (·.size)), (10, (Try.prog.info? 134).map (·.size))] = _; rw [inf12, inf128, inf129, inf5, inf130, inf131, inf132, inf133, inf134]; rfl, rfl⟩⟩
def ty136 : Ty := ⟨11, true, [.s (.int .u64 0), .s (.int .u64 0), .s (.int .u32 0), .s (.int .u8 0), .s (.int .u8 0), .s (.int .u8 0), .s (.int .u8 0), .s .nilFunc, .s (.pointer none), .s (.int .i32 0), .s (.int .i32 0)], [(0, 1), (1, 1), (2, 1), (3, 1), (4, 1), (5, 1), (6, 1), (7, 1), (8, 1), (9, 1), (10, 1)], 0, 0, .struct⟩
theorem ty136_ok : TyOk Try.prog 136 ty136 := ⟨(congrArg (Option.map _) (info_of Try.type136)).trans rfl, rfl, rfl, (congrArg (Option.map isAggD) Try.underlying136).trans rfl, (fun h => by cases h), ⟨_, Try.underlying136, by show [(0, (Try.prog.info? 12).map (·.size)), (1, (Try.prog.info? 12).map (·.size)), (2, (Try.prog.info? 128).map (·.size)), (3, (Try.prog.info? 129).map (·.size)), (4, (Try.prog.info? 5).map (·.size)), (5, (Try.prog.info? 5).map (·.size)), (6, (Try.prog.info? 130).map (·.size)), (7, (Try.prog.info? 131).map (·.size)), (8, (Try.prog.info? 132).map (·.size)), (9, (Try.prog.info? 133).map (·.size)), (10, (Try.prog.info? 134).map (·.size))] = _; rw [inf12, inf128, inf129, inf5, inf130, inf131, inf132, inf133, inf134]; rfl, rfl⟩⟩

def tyTab : Nat → Option Ty := (node 66 (node 34 (node 16 (node 8 (node 4 (node 2 (leaf 1 ty1) (node 3 (leaf 2 ty2) (leaf 3 ty3))) (node 6 (node 5 (leaf 4 ty4) (leaf 5 ty5)) (node 7 (leaf 6 ty6) (leaf 7 ty7)))) (node 12 (node 10 (node 9 (leaf 8 ty8) (leaf 9 ty9)) (node 11 (leaf 10 ty10) (leaf 11 ty11))) (node 14 (node 13 (leaf 12 ty12) (leaf 13 ty13)) (node 15 (leaf 14 ty14) (leaf 15 ty15))))) (node 25 (node 21 (node 18 (node 17 (leaf 16 ty16) (leaf 17 ty17)) (node 19 (leaf 18 ty18) (leaf 19 ty19))) (node 23 (node 22 (leaf 21 ty21) (leaf 22 ty22)) (node 24 (leaf 23 ty23) (leaf 24 ty24)))) (node 30 (node 28 (node 27 (leaf 25 ty25) (leaf 27 ty27)) (node 29 (leaf 28 ty28) (leaf 29 ty29))) (node 32 (node 31 (leaf 30 ty30) (leaf 31 ty31)) (node 33 (leaf 32 ty32) (leaf 33 ty33)))))) (node 50 (node 41 (node 37 (node 35 (leaf 34 ty34) (node 36 (leaf 35 ty35) (leaf 36 ty36))) (node 39 (node 38 (leaf 37 ty37) (leaf 38 ty38)) (node 40 (leaf 39 ty39) (leaf 40 ty40)))) (node 45 (node 43 (node 42 (leaf 41 ty41) (leaf 42 ty42)) (node 44 (leaf 43 ty43) (leaf 44 ty44))) (node 48 (node 47 (leaf 45 ty45) (leaf 47 ty47)) (node 49 (leaf 48 ty48) (leaf 49 ty49))))) (node 58 (node 54 (node 52 (node 51 (leaf 50 ty50) (leaf 51 ty51)) (node 53 (leaf 52 ty52) (leaf 53 ty53))) (node 56 (node 55 (leaf 54 ty54) (leaf 55 ty55)) (node 57 (leaf 56 ty56) (leaf 57 ty57)))) (node 62 (node 60 (node 59 (leaf 58 ty58) (leaf 59 ty59)) (node 61 (leaf 60 ty60) (leaf 61 ty61))) (node 64 (node 63 (leaf 62 ty62) (leaf 63 ty63)) (node 65 (leaf 64 ty64) (leaf 65 ty65))))))) (node 101 (node 84 (node 75 (node 71 (node 68 (leaf 66 ty66) (node 69 (leaf 68 ty68) (leaf 69 ty69))) (node 73 (node 72 (leaf 71 ty71) (leaf 72 ty72)) (node 74 (leaf 73 ty73) (leaf 74 ty74)))) (node 79 (node 77 (node 76 (leaf 75 ty75) (leaf 76 ty76)) (node 78 (leaf 77 ty77) (leaf 78 ty78))) (node 82 (node 80 (leaf 79 ty79) (leaf 80 ty80)) (node 83 (leaf 82 ty82) (leaf 83 ty83))))) (node 92 (node 88 (node 86 (node 85 (leaf 84 ty84) (leaf 85 ty85)) (node 87 (leaf 86 ty86) (leaf 87 ty87))) (node 90 (node 89 (leaf 88 ty88) (leaf 89 ty89)) (node 91 (leaf 90 ty90) (leaf 91 ty91)))) (node 97 (node 95 (node 93 (leaf 92 ty92) (leaf 93 ty93)) (node 96 (leaf 95 ty95) (leaf 96 ty96))) (node 99 (node 98 (leaf 97 ty97) (leaf 98 ty98)) (node 100 (leaf 99 ty99) (leaf 100 ty100)))))) (node 118 (node 109 (node 105 (node 103 (node 102 (leaf 101 ty101) (leaf 102 ty102)) (node 104 (leaf 103 ty103) (leaf 104 ty104))) (node 107 (node 106 (leaf 105 ty105) (leaf 106 ty106)) (node 108 (leaf 107 ty107) (leaf 108 ty108)))) (node 113 (node 111 (node 110 (leaf 109 ty109) (leaf 110 ty110)) (node 112 (leaf 111 ty111) (leaf 112 ty112))) (node 116 (node 115 (leaf 113 ty113) (leaf 115 ty115)) (node 117 (leaf 116 ty116) (leaf 117 ty117))))) (node 129 (node 122 (node 120 (node 119 (leaf 118 ty118) (leaf 119 ty119)) (node 121 (leaf 120 ty120) (leaf 121 ty121))) (node 127 (node 123 (leaf 122 ty122) (leaf 123 ty123)) (node 128 (leaf 127 ty127) (leaf 128 ty128)))) (node 133 (node 131 (node 130 (leaf 129 ty129) (leaf 130 ty130)) (node 132 (leaf 131 ty131) (leaf 132 ty132))) (node 135 (node 134 (leaf 133 ty133) (leaf 134 ty134)) (node 136 (leaf 135 ty135) (leaf 136 ty136))))))))
theorem tyTab_ok : ∀ t u, tyTab t = some u → TyOk Try.prog t u := (node_ok (node_ok (node_ok (node_ok (node_ok (node_ok (leaf_ok ty1_ok) (node_ok (leaf_ok ty2_ok) (leaf_ok ty3_ok))) (node_ok (node_ok (leaf_ok ty4_ok) (leaf_ok ty5_ok)) (node_ok (leaf_ok ty6_ok) (leaf_ok ty7_ok)))) (node_ok (node_ok (node_ok (leaf_ok ty8_ok) (leaf_ok ty9_ok)) (node_ok (leaf_ok ty10_ok) (leaf_ok ty11_ok))) (node_ok (node_ok (leaf_ok ty12_ok) (leaf_ok ty13_ok)) (node_ok (leaf_ok ty14_ok) (leaf_ok ty15_ok))))) (node_ok (node_ok (node_ok (node_ok (leaf_ok ty16_ok) (leaf_ok ty17_ok)) (node_ok (leaf_ok ty18_ok) (leaf_ok ty19_ok))) (node_ok (node_ok (leaf_ok ty21_ok) (leaf_ok ty22_ok)) (node_ok (leaf_ok ty23_ok) (leaf_ok ty24_ok)))) (node_ok (node_ok (node_ok (leaf_ok ty25_ok) (leaf_ok ty27_ok)) (node_ok (leaf_ok ty28_ok) (leaf_ok ty29_ok))) (node_ok (node_ok (leaf_ok ty30_ok) (leaf_ok ty31_ok)) (node_ok (leaf_ok ty32_ok) (leaf_ok ty33_ok)))))) (node_ok (node_ok (node_ok (node_ok (leaf_ok ty34_ok) (node_ok (leaf_ok ty35_ok) (leaf_ok ty36_ok))) (node_ok (node_ok (leaf_ok ty37_ok) (leaf_ok ty38_ok)) (node_ok (leaf_ok ty39_ok) (leaf_ok ty40_ok)))) (node_ok (node_ok (node_ok (leaf_ok ty41_ok) (leaf_ok ty42_ok)) (node_ok (leaf_ok ty43_ok) (leaf_ok ty44_ok))) (node_ok (node_ok (leaf_ok ty45_ok) (leaf_ok ty47_ok)) (node_ok (leaf_ok ty48_ok) (leaf_ok ty49_ok))))) (node_ok (node_ok (node_ok (node_ok (leaf_ok ty50_ok) (leaf_ok ty51_ok)) (node_ok (leaf_ok ty52_ok) (leaf_ok ty53_ok))) (node_ok (node_ok (leaf_ok ty54_ok) (leaf_ok ty55_ok)) (node_ok (leaf_ok ty56_ok) (leaf_ok ty57_ok)))) (node_ok (node_ok (node_ok (leaf_ok ty58_ok) (leaf_ok ty59_ok)) (node_ok (leaf_ok ty60_ok) (leaf_ok ty61_ok))) (node_ok (node_ok (leaf_ok ty62_ok) (leaf_ok ty63_ok)) (node_ok (leaf_ok ty64_ok) (leaf_ok ty65_ok))))))) (node_ok (node_ok (node_ok (node_ok (node_ok (leaf_ok ty66_ok) (node_ok (leaf_ok ty68_ok) (leaf_ok ty69_ok))) (node_ok (node_ok (leaf_ok ty71_ok) (leaf_ok ty72_ok)) (node_ok (leaf_ok ty73_ok) (leaf_ok ty74_ok)))) (node_ok (node_ok (node_ok (leaf_ok ty75_ok) (leaf_ok ty76_ok)) (node_ok (leaf_ok ty77_ok) (leaf_ok ty78_ok))) (node_ok (node_ok (leaf_ok ty79_ok) (leaf_ok ty80_ok)) (node_ok (leaf_ok ty82_ok) (leaf_ok ty83_ok))))) (node_ok (node_ok (node_ok (node_ok (leaf_ok ty84_ok) (leaf_ok ty85_ok)) (node_ok (leaf_ok ty86_ok) (leaf_ok ty87_ok))) (node_ok (node_ok (leaf_ok ty88_ok) (leaf_ok ty89_ok)) (node_ok (leaf_ok ty90_ok) (leaf_ok ty91_ok)))) (node_ok (node_ok (node_ok (leaf_ok ty92_ok) (leaf_ok ty93_ok)) (node_ok (leaf_ok ty95_ok) (leaf_ok ty96_ok))) (node_ok (node_ok (leaf_ok ty97_ok) (leaf_ok ty98_ok)) (node_ok (leaf_ok ty99_ok) (leaf_ok ty100_ok)))))) (node_ok (node_ok (node_ok (node_ok (node_ok (leaf_ok ty101_ok) (leaf_ok ty102_ok)) (node_ok (leaf_ok ty103_ok) (leaf_ok ty104_ok))) (node_ok (node_ok (leaf_ok ty105_ok) (leaf_ok ty106_ok)) (node_ok (leaf_ok ty107_ok) (leaf_ok ty108_ok)))) (node_ok (node_ok (node_ok (leaf_ok ty109_ok) (leaf_ok ty110_ok)) (node_ok (leaf_ok ty111_ok) (leaf_ok ty112_ok))) (node_ok (node_ok (leaf_ok ty113_ok) (leaf_ok ty115_ok)) (node_ok (leaf_ok ty116_ok) (leaf_ok ty117_ok))))) (node_ok (node_ok (node_ok (node_ok (leaf_ok ty118_ok) (leaf_ok ty119_ok)) (node_ok (leaf_ok ty120_ok) (leaf_ok ty121_ok))) (node_ok (node_ok (leaf_ok ty122_ok) (leaf_ok ty123_ok)) (node_ok (leaf_ok ty127_ok) (leaf_ok ty128_ok)))) (node_ok (node_ok (node_ok (leaf_ok ty129_ok) (leaf_ok ty130_ok)) (node_ok (leaf_ok ty131_ok) (leaf_ok ty132_ok))) (node_ok (node_ok (leaf_ok ty133_ok) (leaf_ok ty134_ok)) (node_ok (leaf_ok ty135_ok) (leaf_ok ty136_ok))))))))

/-- What a function of this program is walked in: how many places its frame has, which callees are handed rows, which places own, which handles move. -/
@[reducible] noncomputable def G (n : Nat) (hf mt mv : Nat → Bool) : Ctx := ⟨Try.prog, tyTab, n, hf, mt, mv, true⟩
theorem G_ok (n : Nat) (hf mt mv : Nat → Bool) : (G n hf mt mv).Ok := ⟨tyTab_ok⟩

end Go.Vai

/- Terms as the program's values, and the least functions of the order. No condition. -/
namespace Go.Vai
open Go.Proofs

/-- What is handed in and back as data alone. -/
abbrev Snd (f : Nat) (args rs : List PV) : Prop := SoundAt Try.prog f args [] (tupOf rs) []

inductive Tm where
  | mk (k : Int) (n : ByteArray) (i re im : Int) (ts : List Tm)
namespace Tm
def k : Tm → Int | mk k _ _ _ _ _ => k
def n : Tm → ByteArray | mk _ n _ _ _ _ => n
def i : Tm → Int | mk _ _ i _ _ _ => i
def re : Tm → Int | mk _ _ _ re _ _ => re
def im : Tm → Int | mk _ _ _ _ im _ => im
def ts : Tm → List Tm | mk _ _ _ _ _ ts => ts
mutual
def enc : Tm → List PV | mk k n i re im ts => [iv k, .s (.string n), iv i, .s (.int .u64 re), .s (.int .u64 im), .slc 6 (encs ts) false]
def encs : List Tm → List (List PV) | [] => [] | t :: r => enc t :: encs r
end
theorem encs_map : ∀ ts, encs ts = ts.map enc | [] => rfl | t :: r => by rw [encs, encs_map r]; rfl
def cells (t : Tm) : List PV := [iv t.k, .s (.string t.n), iv t.i, .s (.int .u64 t.re), .s (.int .u64 t.im), .slc 6 (t.ts.map enc) false]
theorem enc_eq (t : Tm) : enc t = t.cells := by cases t; simp [enc, cells, encs_map, k, n, i, re, im, ts]
def pv (t : Tm) : PV := .agg t.cells
theorem size_lt {t u : Tm} (h : u ∈ t.ts) : SizeOf.sizeOf u < SizeOf.sizeOf t := by
  cases t; have := List.sizeOf_lt_of_mem h; simp [ts] at this ⊢; omega
end Tm

def rankI (k : Int) : Int := if k = 1 then 0 else if k = 4 then 1 else if k = 3 then 2 else if k = 2 then 3 else 4
theorem rank_ok (t : Tm) : Snd 71 [t.pv] [iv (rankI t.k)] := by
  refine sound_pure (Γ := G 13 (fun _ => false) (fun _ => false) (fun _ => false)) (G_ok _ _ _ _) Try.func71 rfl (by decide) rfl rfl rfl ?_
  repeat' ((try conv => whnf); with_reducible first | refine AWP.seq ?_ | refine AWP.region (G_ok _ _ _ _) rfl ?_ | refine AWP.block ?_ | refine AWP.cond rfl ?_ | refine AWP.ret ?_ | refine AWP.skip ?_ | refine AWP.exit ?_ | refine AWP.label ?_ | refine AWP.goto ?_ | refine Br (fun h => ?_) (fun h => ?_))
  all_goals (try conv => whnf)
  all_goals (refine finI rfl ?_; simp at *; simp [rankI, *])

theorem nan_int (a : Int) : Snd 96 [iv a] [bv false] := by
  refine sound_pure (Γ := G 6 (fun _ => false) (fun _ => false) (fun _ => false)) (G_ok _ _ _ _) Try.func96 rfl (by decide) rfl rfl rfl ?_
  repeat' ((try conv => whnf); with_reducible first | refine AWP.seq ?_ | refine AWP.region (G_ok _ _ _ _) rfl ?_ | refine AWP.block ?_ | refine AWP.cond rfl ?_ | refine AWP.ret ?_ | refine AWP.skip ?_ | refine AWP.exit ?_ | refine AWP.label ?_ | refine AWP.goto ?_ | refine Br (fun h => ?_) (fun h => ?_))
  all_goals (try conv => whnf)
  all_goals (refine finB rfl ?_; simp)
theorem nan_int64 (a : Int) : Snd 97 [iv a] [bv false] := by
  refine sound_pure (Γ := G 6 (fun _ => false) (fun _ => false) (fun _ => false)) (G_ok _ _ _ _) Try.func97 rfl (by decide) rfl rfl rfl ?_
  repeat' ((try conv => whnf); with_reducible first | refine AWP.seq ?_ | refine AWP.region (G_ok _ _ _ _) rfl ?_ | refine AWP.block ?_ | refine AWP.cond rfl ?_ | refine AWP.ret ?_ | refine AWP.skip ?_ | refine AWP.exit ?_ | refine AWP.label ?_ | refine AWP.goto ?_ | refine Br (fun h => ?_) (fun h => ?_))
  all_goals (try conv => whnf)
  all_goals (refine finB rfl ?_; simp)
theorem nan_uint64 (a : Int) : Snd 119 [uv a] [bv false] := by
  refine sound_pure (Γ := G 6 (fun _ => false) (fun _ => false) (fun _ => false)) (G_ok _ _ _ _) Try.func119 rfl (by decide) rfl rfl rfl ?_
  repeat' ((try conv => whnf); with_reducible first | refine AWP.seq ?_ | refine AWP.region (G_ok _ _ _ _) rfl ?_ | refine AWP.block ?_ | refine AWP.cond rfl ?_ | refine AWP.ret ?_ | refine AWP.skip ?_ | refine AWP.exit ?_ | refine AWP.label ?_ | refine AWP.goto ?_ | refine Br (fun h => ?_) (fun h => ?_))
  all_goals (try conv => whnf)
  all_goals (refine finB rfl ?_; simp)
theorem nan_string (a : ByteArray) : Snd 99 [sv a] [bv false] := by
  refine sound_pure (Γ := G 6 (fun _ => false) (fun _ => false) (fun _ => false)) (G_ok _ _ _ _) Try.func99 rfl (by decide) rfl rfl rfl ?_
  repeat' ((try conv => whnf); with_reducible first | refine AWP.seq ?_ | refine AWP.region (G_ok _ _ _ _) rfl ?_ | refine AWP.block ?_ | refine AWP.cond rfl ?_ | refine AWP.ret ?_ | refine AWP.skip ?_ | refine AWP.exit ?_ | refine AWP.label ?_ | refine AWP.goto ?_ | refine Br (fun h => ?_) (fun h => ?_))
  all_goals (try conv => whnf)
  all_goals (refine finB rfl ?_; simp)

def cmpI (a b : Int) : Int := if a < b then -1 else if b < a then 1 else 0
theorem cmp_int (a b : Int) : Snd 70 [iv a, iv b] [iv (cmpI a b)] := by
  refine sound_pure (Γ := G 20 (fun _ => false) (fun _ => false) (fun _ => false)) (G_ok _ _ _ _) Try.func70 rfl (by decide) rfl rfl rfl ?_
  repeat' ((try conv => whnf); with_reducible first | refine AWP.seq ?_ | refine AWP.region (G_ok _ _ _ _) rfl ?_ | refine AWP.block ?_ | refine AWP.cond rfl ?_ | refine AWP.ret ?_ | refine AWP.skip ?_ | refine AWP.exit ?_ | refine AWP.label ?_ | refine AWP.goto ?_ | refine Br (fun h => ?_) (fun h => ?_))
  refine ⟨_, _, nan_int a, ?_⟩
  repeat' ((try conv => whnf); with_reducible first | refine AWP.seq ?_ | refine AWP.region (G_ok _ _ _ _) rfl ?_ | refine AWP.block ?_ | refine AWP.cond rfl ?_ | refine AWP.ret ?_ | refine AWP.skip ?_ | refine AWP.exit ?_ | refine AWP.label ?_ | refine AWP.goto ?_ | refine Br (fun h => ?_) (fun h => ?_))
  refine ⟨_, _, nan_int b, ?_⟩
  repeat' ((try conv => whnf); with_reducible first | refine AWP.seq ?_ | refine AWP.region (G_ok _ _ _ _) rfl ?_ | refine AWP.block ?_ | refine AWP.cond rfl ?_ | refine AWP.ret ?_ | refine AWP.skip ?_ | refine AWP.exit ?_ | refine AWP.label ?_ | refine AWP.goto ?_ | refine Br (fun h => ?_) (fun h => ?_))
  all_goals (try conv => whnf)
  all_goals (refine finI rfl ?_; simp at *; simp [cmpI]; omega)
theorem cmp_int64 (a b : Int) : Snd 72 [iv a, iv b] [iv (cmpI a b)] := by
  refine sound_pure (Γ := G 20 (fun _ => false) (fun _ => false) (fun _ => false)) (G_ok _ _ _ _) Try.func72 rfl (by decide) rfl rfl rfl ?_
  repeat' ((try conv => whnf); with_reducible first | refine AWP.seq ?_ | refine AWP.region (G_ok _ _ _ _) rfl ?_ | refine AWP.block ?_ | refine AWP.cond rfl ?_ | refine AWP.ret ?_ | refine AWP.skip ?_ | refine AWP.exit ?_ | refine AWP.label ?_ | refine AWP.goto ?_ | refine Br (fun h => ?_) (fun h => ?_))
  refine ⟨_, _, nan_int64 a, ?_⟩
  repeat' ((try conv => whnf); with_reducible first | refine AWP.seq ?_ | refine AWP.region (G_ok _ _ _ _) rfl ?_ | refine AWP.block ?_ | refine AWP.cond rfl ?_ | refine AWP.ret ?_ | refine AWP.skip ?_ | refine AWP.exit ?_ | refine AWP.label ?_ | refine AWP.goto ?_ | refine Br (fun h => ?_) (fun h => ?_))
  refine ⟨_, _, nan_int64 b, ?_⟩
  repeat' ((try conv => whnf); with_reducible first | refine AWP.seq ?_ | refine AWP.region (G_ok _ _ _ _) rfl ?_ | refine AWP.block ?_ | refine AWP.cond rfl ?_ | refine AWP.ret ?_ | refine AWP.skip ?_ | refine AWP.exit ?_ | refine AWP.label ?_ | refine AWP.goto ?_ | refine Br (fun h => ?_) (fun h => ?_))
  all_goals (try conv => whnf)
  all_goals (refine finI rfl ?_; simp at *; simp [cmpI]; omega)
theorem cmp_uint64 (a b : Int) : Snd 98 [uv a, uv b] [iv (cmpI a b)] := by
  refine sound_pure (Γ := G 20 (fun _ => false) (fun _ => false) (fun _ => false)) (G_ok _ _ _ _) Try.func98 rfl (by decide) rfl rfl rfl ?_
  repeat' ((try conv => whnf); with_reducible first | refine AWP.seq ?_ | refine AWP.region (G_ok _ _ _ _) rfl ?_ | refine AWP.block ?_ | refine AWP.cond rfl ?_ | refine AWP.ret ?_ | refine AWP.skip ?_ | refine AWP.exit ?_ | refine AWP.label ?_ | refine AWP.goto ?_ | refine Br (fun h => ?_) (fun h => ?_))
  refine ⟨_, _, nan_uint64 a, ?_⟩
  repeat' ((try conv => whnf); with_reducible first | refine AWP.seq ?_ | refine AWP.region (G_ok _ _ _ _) rfl ?_ | refine AWP.block ?_ | refine AWP.cond rfl ?_ | refine AWP.ret ?_ | refine AWP.skip ?_ | refine AWP.exit ?_ | refine AWP.label ?_ | refine AWP.goto ?_ | refine Br (fun h => ?_) (fun h => ?_))
  refine ⟨_, _, nan_uint64 b, ?_⟩
  repeat' ((try conv => whnf); with_reducible first | refine AWP.seq ?_ | refine AWP.region (G_ok _ _ _ _) rfl ?_ | refine AWP.block ?_ | refine AWP.cond rfl ?_ | refine AWP.ret ?_ | refine AWP.skip ?_ | refine AWP.exit ?_ | refine AWP.label ?_ | refine AWP.goto ?_ | refine Br (fun h => ?_) (fun h => ?_))
  all_goals (try conv => whnf)
  all_goals (refine finI rfl ?_; simp at *; simp [cmpI]; omega)
def cmpS (a b : ByteArray) : Int := if Op.bytesLess a.toList b.toList then -1 else if a.toList == b.toList then 0 else 1
theorem cmp_string (a b : ByteArray) : Snd 74 [sv a, sv b] [iv (cmpS a b)] := by
  refine sound_pure (Γ := G 20 (fun _ => false) (fun _ => false) (fun _ => false)) (G_ok _ _ _ _) Try.func74 rfl (by decide) rfl rfl rfl ?_
  repeat' ((try conv => whnf); with_reducible first | refine AWP.seq ?_ | refine AWP.region (G_ok _ _ _ _) rfl ?_ | refine AWP.block ?_ | refine AWP.cond rfl ?_ | refine AWP.ret ?_ | refine AWP.skip ?_ | refine AWP.exit ?_ | refine AWP.label ?_ | refine AWP.goto ?_ | refine Br (fun h => ?_) (fun h => ?_))
  refine ⟨_, _, nan_string a, ?_⟩
  repeat' ((try conv => whnf); with_reducible first | refine AWP.seq ?_ | refine AWP.region (G_ok _ _ _ _) rfl ?_ | refine AWP.block ?_ | refine AWP.cond rfl ?_ | refine AWP.ret ?_ | refine AWP.skip ?_ | refine AWP.exit ?_ | refine AWP.label ?_ | refine AWP.goto ?_ | refine Br (fun h => ?_) (fun h => ?_))
  refine ⟨_, _, nan_string b, ?_⟩
  repeat' ((try conv => whnf); with_reducible first | refine AWP.seq ?_ | refine AWP.region (G_ok _ _ _ _) rfl ?_ | refine AWP.block ?_ | refine AWP.cond rfl ?_ | refine AWP.ret ?_ | refine AWP.skip ?_ | refine AWP.exit ?_ | refine AWP.label ?_ | refine AWP.goto ?_ | refine Br (fun h => ?_) (fun h => ?_))
  all_goals (try conv => whnf)
  · refine finI rfl ?_; simp [cmpS, h]
  · refine finI rfl ?_; rename_i h1; simp at h; simp [cmpS, h, h1]
  · refine finI rfl ?_; rename_i h1; rw [h1] at h; simp at h; rw [h] at h1; simp [cmpS, h, h1]

theorem i64_of {n : Int} (h0 : -9223372036854775808 ≤ n) (h1 : n ≤ 9223372036854775807) : IntKind.i64.wrap n = n := IntWalk.i64_in _ ⟨h0, h1⟩

def ivs (xs : List Int) : PV := .slc 1 (xs.map fun x => [iv x]) false
def orL : List Int → Int
  | [] => 0
  | x :: r => if x ≠ 0 then x else orL r
theorem or_ok (xs : List Int) (hx : xs.length ≤ 1000000) : Snd 75 [ivs xs] [iv (orL xs)] := by
  refine sound_pure (Γ := G 18 (fun _ => false) (fun _ => false) (fun _ => false)) (G_ok _ _ _ _) Try.func75 rfl (by decide) rfl rfl rfl ?_
  repeat' ((try conv => whnf); with_reducible first | refine AWP.seq ?_ | refine AWP.region (G_ok _ _ _ _) rfl ?_ | refine AWP.block ?_ | refine AWP.cond rfl ?_ | refine AWP.ret ?_ | refine AWP.skip ?_ | refine AWP.exit ?_ | refine AWP.label ?_ | refine AWP.goto ?_ | refine Br (fun h => ?_) (fun h => ?_))
  refine AWP.loop (fun m st => ∃ j : Nat, m = xs.length - j ∧ j ≤ xs.length ∧ Has st [(3, iv 0), (6, ivs xs), (7, iv (xs.map fun x => [iv x]).length), (8, iv j)] [] ∧ orL (xs.drop j) = orL xs) xs.length ⟨0, rfl, Nat.zero_le _, ⟨⟨rfl, rfl, rfl, rfl, trivial⟩, trivial⟩, rfl⟩ ?_
  rintro m st ⟨j, rfl, hj, hst, hr⟩
  obtain ⟨f, H, rfl⟩ := hst.canon
  repeat' ((try conv => whnf); with_reducible first | refine AWP.seq ?_ | refine AWP.region (G_ok _ _ _ _) rfl ?_ | refine AWP.block ?_ | refine AWP.cond rfl ?_ | refine AWP.ret ?_ | refine AWP.skip ?_ | refine AWP.exit ?_ | refine AWP.label ?_ | refine AWP.goto ?_ | refine Br (fun h => ?_) (fun h => ?_))
  all_goals (try conv => whnf)
  · have hj2 : j < xs.length := by simpa using h
    have hd : xs.drop j = xs[j] :: xs.drop (j + 1) := List.drop_eq_getElem_cons hj2
    rw [hd, orL] at hr
    refine ⟨by omega, [iv xs[j]], by simp [hj2], ?_⟩
    repeat' ((try conv => whnf); with_reducible first | refine AWP.seq ?_ | refine AWP.region (G_ok _ _ _ _) rfl ?_ | refine AWP.block ?_ | refine AWP.cond rfl ?_ | refine AWP.ret ?_ | refine AWP.skip ?_ | refine AWP.exit ?_ | refine AWP.label ?_ | refine AWP.goto ?_ | refine Br (fun h => ?_) (fun h => ?_))
    all_goals (try conv => whnf)
    · refine finI rfl ?_
      simp at h
      rw [← hr, if_pos h]
    · have hw : IntKind.i64.wrap ((j : Int) + 1) = ((j + 1 : Nat) : Int) := i64_of (by omega) (by omega)
      refine ⟨xs.length - (j + 1), by omega, j + 1, rfl, hj2, ⟨⟨rfl, rfl, rfl, by show PV.s (.int .i64 (IntKind.i64.wrap ((j : Int) + 1))) = _; rw [hw], trivial⟩, trivial⟩, ?_⟩
      simp at h
      rw [← hr, if_neg (by simpa using h)]
  · have hj2 : j = xs.length := by simp at h; omega
    refine finI rfl ?_
    rw [← hr, hj2]; simp [orL]

theorem compareC_ok (a b c d : Int) : Snd 73 [uv a, uv b, uv c, uv d] [iv (orL [cmpI a c, cmpI b d])] := by
  refine sound_pure (Γ := G 17 (fun _ => false) (fun _ => false) (fun _ => false)) (G_ok _ _ _ _) Try.func73 rfl (by decide) rfl rfl rfl ?_
  repeat' ((try conv => whnf); with_reducible first | refine AWP.seq ?_ | refine AWP.region (G_ok _ _ _ _) rfl ?_ | refine AWP.block ?_ | refine AWP.cond rfl ?_ | refine AWP.ret ?_ | refine AWP.skip ?_ | refine AWP.exit ?_ | refine AWP.label ?_ | refine AWP.goto ?_ | refine Br (fun h => ?_) (fun h => ?_))
  refine ⟨_, _, cmp_uint64 a c, ?_⟩
  repeat' ((try conv => whnf); with_reducible first | refine AWP.seq ?_ | refine AWP.region (G_ok _ _ _ _) rfl ?_ | refine AWP.block ?_ | refine AWP.cond rfl ?_ | refine AWP.ret ?_ | refine AWP.skip ?_ | refine AWP.exit ?_ | refine AWP.label ?_ | refine AWP.goto ?_ | refine Br (fun h => ?_) (fun h => ?_))
  refine ⟨_, _, cmp_uint64 b d, ?_⟩
  repeat' ((try conv => whnf); with_reducible first | refine AWP.seq ?_ | refine AWP.region (G_ok _ _ _ _) rfl ?_ | refine AWP.block ?_ | refine AWP.cond rfl ?_ | refine AWP.ret ?_ | refine AWP.skip ?_ | refine AWP.exit ?_ | refine AWP.label ?_ | refine AWP.goto ?_ | refine Br (fun h => ?_) (fun h => ?_))
  refine ⟨_, _, or_ok [cmpI a c, cmpI b d] (by simp), ?_⟩
  repeat' ((try conv => whnf); with_reducible first | refine AWP.seq ?_ | refine AWP.region (G_ok _ _ _ _) rfl ?_ | refine AWP.block ?_ | refine AWP.cond rfl ?_ | refine AWP.ret ?_ | refine AWP.skip ?_ | refine AWP.exit ?_ | refine AWP.label ?_ | refine AWP.goto ?_ | refine Br (fun h => ?_) (fun h => ?_))
  all_goals (try conv => whnf)
  refine finI rfl rfl

end Go.Vai

/- The order's comparison, walked. No condition. -/
namespace Go.Vai
open Go.Proofs

def tsv (xs : List Tm) : PV := .slc 6 (xs.map Tm.enc) false

mutual
def compareT : Tm → Tm → Int
  | .mk k n i re im ts, b =>
    if cmpI (rankI k) (rankI b.k) ≠ 0 then cmpI (rankI k) (rankI b.k)
    else if k = 1 ∨ k = 3 then cmpI i b.i
    else if k = 4 then orL [cmpI re b.re, cmpI im b.im]
    else if k = 2 then cmpS n b.n
    else if orL [cmpI ts.length b.ts.length, cmpS n b.n] ≠ 0 then orL [cmpI ts.length b.ts.length, cmpS n b.n]
    else compareL ts b.ts
def compareL : List Tm → List Tm → Int
  | [], ys => if 0 < ys.length then -1 else 0
  | x :: r, ys => match ys with
    | [] => 1
    | y :: s => if compareT x y ≠ 0 then compareT x y else compareL r s
end
theorem compareT_eq (a b : Tm) : compareT a b = if cmpI (rankI a.k) (rankI b.k) ≠ 0 then cmpI (rankI a.k) (rankI b.k)
    else if a.k = 1 ∨ a.k = 3 then cmpI a.i b.i
    else if a.k = 4 then orL [cmpI a.re b.re, cmpI a.im b.im]
    else if a.k = 2 then cmpS a.n b.n
    else if orL [cmpI a.ts.length b.ts.length, cmpS a.n b.n] ≠ 0 then orL [cmpI a.ts.length b.ts.length, cmpS a.n b.n]
    else compareL a.ts b.ts := by cases a; rw [compareT]; rfl

theorem compareFunc_ok (g : Nat) (xs ys : List Tm) (hg : ∀ x ∈ xs, ∀ y ∈ ys, Snd g [x.pv, y.pv] [iv (compareT x y)]) (hx : xs.length ≤ 1000000) (hy : ys.length ≤ 1000000) :
    Snd 76 [tsv xs, tsv ys, fnv g] [iv (compareL xs ys)] := by
  refine sound_pure (Γ := G 39 (fun _ => false) (fun _ => false) (fun _ => false)) (G_ok _ _ _ _) Try.func76 rfl (by decide) rfl rfl rfl ?_
  repeat' ((try conv => whnf); with_reducible first | refine AWP.seq ?_ | refine AWP.region (G_ok _ _ _ _) rfl ?_ | refine AWP.block ?_ | refine AWP.cond rfl ?_ | refine AWP.ret ?_ | refine AWP.skip ?_ | refine AWP.exit ?_ | refine AWP.label ?_ | refine AWP.goto ?_ | refine Br (fun h => ?_) (fun h => ?_))
  refine AWP.loop (fun m st => ∃ j : Nat, m = xs.length - j ∧ j ≤ xs.length ∧ Has st [(0, tsv xs), (1, tsv ys), (2, fnv g), (11, tsv xs), (12, iv (xs.map Tm.enc).length), (13, iv j)] [] ∧ compareL (xs.drop j) (ys.drop j) = compareL xs ys ∧ j ≤ ys.length) xs.length ⟨0, rfl, Nat.zero_le _, ⟨⟨rfl, rfl, rfl, rfl, rfl, rfl, trivial⟩, trivial⟩, rfl, Nat.zero_le _⟩ ?_
  rintro m st ⟨j, rfl, hj, hst, hr, hjy⟩
  obtain ⟨f, H, rfl⟩ := hst.canon
  repeat' ((try conv => whnf); with_reducible first | refine AWP.seq ?_ | refine AWP.region (G_ok _ _ _ _) rfl ?_ | refine AWP.block ?_ | refine AWP.cond rfl ?_ | refine AWP.ret ?_ | refine AWP.skip ?_ | refine AWP.exit ?_ | refine AWP.label ?_ | refine AWP.goto ?_ | refine Br (fun h => ?_) (fun h => ?_))
  all_goals (try conv => whnf)
  · have hj2 : j < xs.length := by simpa using h
    have hd : xs.drop j = xs[j] :: xs.drop (j + 1) := List.drop_eq_getElem_cons hj2
    refine ⟨by omega, (xs[j]).cells, by simp [hj2, Tm.enc_eq], ?_⟩
    repeat' ((try conv => whnf); with_reducible first | refine AWP.seq ?_ | refine AWP.region (G_ok _ _ _ _) rfl ?_ | refine AWP.block ?_ | refine AWP.cond rfl ?_ | refine AWP.ret ?_ | refine AWP.skip ?_ | refine AWP.exit ?_ | refine AWP.label ?_ | refine AWP.goto ?_ | refine Br (fun h => ?_) (fun h => ?_))
    all_goals (try conv => whnf)
    · refine finI rfl ?_
      have h2 : ys.drop j = [] := by simp at h; simp; omega
      rw [← hr, hd, h2, compareL]
    · have hjy2 : j < ys.length := by simp at h; omega
      have hdy : ys.drop j = ys[j] :: ys.drop (j + 1) := List.drop_eq_getElem_cons hjy2
      rw [hd, hdy, compareL] at hr
      refine ⟨by omega, (ys[j]).cells, by simp [hjy2, Tm.enc_eq], ?_⟩
      repeat' ((try conv => whnf); with_reducible first | refine AWP.seq ?_ | refine AWP.region (G_ok _ _ _ _) rfl ?_ | refine AWP.block ?_ | refine AWP.cond rfl ?_ | refine AWP.ret ?_ | refine AWP.skip ?_ | refine AWP.exit ?_ | refine AWP.label ?_ | refine AWP.goto ?_ | refine Br (fun h => ?_) (fun h => ?_))
      refine ⟨_, _, hg xs[j] (List.getElem_mem hj2) ys[j] (List.getElem_mem hjy2), ?_⟩
      repeat' ((try conv => whnf); with_reducible first | refine AWP.seq ?_ | refine AWP.region (G_ok _ _ _ _) rfl ?_ | refine AWP.block ?_ | refine AWP.cond rfl ?_ | refine AWP.ret ?_ | refine AWP.skip ?_ | refine AWP.exit ?_ | refine AWP.label ?_ | refine AWP.goto ?_ | refine Br (fun h => ?_) (fun h => ?_))
      all_goals (try conv => whnf)
      · refine finI rfl ?_
        simp at h
        rw [← hr, if_pos h]
      · have hw : IntKind.i64.wrap ((j : Int) + 1) = ((j + 1 : Nat) : Int) := i64_of (by omega) (by omega)
        refine ⟨xs.length - (j + 1), by omega, j + 1, rfl, hj2, ⟨⟨rfl, rfl, rfl, rfl, rfl, by show PV.s (.int .i64 (IntKind.i64.wrap ((j : Int) + 1))) = _; rw [hw], trivial⟩, trivial⟩, ?_, hjy2⟩
        rw [← hr, if_neg (by simpa using h)]
  · have hj2 : j = xs.length := by simp at *; omega
    refine finI rfl ?_
    simp at h
    rw [← hr, hj2, List.drop_length, compareL, if_pos (by simp; omega)]
  · have hj2 : j = xs.length := by simp at *; omega
    refine finI rfl ?_
    simp at h
    rw [← hr, hj2, List.drop_length, compareL, if_neg (by simp; omega)]

/-- No list within is longer than any the machine could bear. -/
inductive Tm.Fit : Tm → Prop where
  | mk (k : Int) (n : ByteArray) (i re im : Int) (ts : List Tm) (hl : ts.length ≤ 1000000) (h : ∀ t ∈ ts, Tm.Fit t) : Tm.Fit (.mk k n i re im ts)
theorem Tm.Fit.len {t : Tm} (h : t.Fit) : t.ts.length ≤ 1000000 := by cases h; assumption
theorem Tm.Fit.arg {t : Tm} (h : t.Fit) : ∀ u ∈ t.ts, u.Fit := by cases h; assumption

theorem compare_ok (a b : Tm) (ha : a.Fit) (hb : b.Fit) : Snd 48 [a.pv, b.pv] [iv (compareT a b)] := by
  refine sound_pure (Γ := G 65 (fun _ => false) (fun _ => false) (fun _ => false)) (G_ok _ _ _ _) Try.func48 rfl (by decide) rfl rfl rfl ?_
  repeat' ((try conv => whnf); with_reducible first | refine AWP.seq ?_ | refine AWP.region (G_ok _ _ _ _) rfl ?_ | refine AWP.draw (G_ok _ _ _ _) rfl [0, 1, 0, 7, 15, 31] [3, 1, 1, 1] rfl rfl ?_ | refine AWP.draw (G_ok _ _ _ _) rfl [0, 1, 3, 0, 8, 24, 63, 0, 128, 0, 512, 2047, 4095, 8191, 16383] [11, 1, 1, 1, 1] rfl rfl ?_ | refine AWP.block ?_ | refine AWP.cond rfl ?_ | refine AWP.ret ?_ | refine AWP.skip ?_ | refine AWP.exit ?_ | refine AWP.label ?_ | refine AWP.goto ?_ | refine Br (fun h => ?_) (fun h => ?_))
  refine ⟨_, _, rank_ok a, ?_⟩
  repeat' ((try conv => whnf); with_reducible first | refine AWP.seq ?_ | refine AWP.region (G_ok _ _ _ _) rfl ?_ | refine AWP.draw (G_ok _ _ _ _) rfl [0, 1, 0, 7, 15, 31] [3, 1, 1, 1] rfl rfl ?_ | refine AWP.draw (G_ok _ _ _ _) rfl [0, 1, 3, 0, 8, 24, 63, 0, 128, 0, 512, 2047, 4095, 8191, 16383] [11, 1, 1, 1, 1] rfl rfl ?_ | refine AWP.block ?_ | refine AWP.cond rfl ?_ | refine AWP.ret ?_ | refine AWP.skip ?_ | refine AWP.exit ?_ | refine AWP.label ?_ | refine AWP.goto ?_ | refine Br (fun h => ?_) (fun h => ?_))
  refine ⟨_, _, rank_ok b, ?_⟩
  repeat' ((try conv => whnf); with_reducible first | refine AWP.seq ?_ | refine AWP.region (G_ok _ _ _ _) rfl ?_ | refine AWP.draw (G_ok _ _ _ _) rfl [0, 1, 0, 7, 15, 31] [3, 1, 1, 1] rfl rfl ?_ | refine AWP.draw (G_ok _ _ _ _) rfl [0, 1, 3, 0, 8, 24, 63, 0, 128, 0, 512, 2047, 4095, 8191, 16383] [11, 1, 1, 1, 1] rfl rfl ?_ | refine AWP.block ?_ | refine AWP.cond rfl ?_ | refine AWP.ret ?_ | refine AWP.skip ?_ | refine AWP.exit ?_ | refine AWP.label ?_ | refine AWP.goto ?_ | refine Br (fun h => ?_) (fun h => ?_))
  refine ⟨_, _, cmp_int (rankI a.k) (rankI b.k), ?_⟩
  repeat' ((try conv => whnf); with_reducible first | refine AWP.seq ?_ | refine AWP.region (G_ok _ _ _ _) rfl ?_ | refine AWP.draw (G_ok _ _ _ _) rfl [0, 1, 0, 7, 15, 31] [3, 1, 1, 1] rfl rfl ?_ | refine AWP.draw (G_ok _ _ _ _) rfl [0, 1, 3, 0, 8, 24, 63, 0, 128, 0, 512, 2047, 4095, 8191, 16383] [11, 1, 1, 1, 1] rfl rfl ?_ | refine AWP.block ?_ | refine AWP.cond rfl ?_ | refine AWP.ret ?_ | refine AWP.skip ?_ | refine AWP.exit ?_ | refine AWP.label ?_ | refine AWP.goto ?_ | refine Br (fun h => ?_) (fun h => ?_))
  all_goals (try conv => whnf)
  all_goals try (exfalso; simp_all; done)
  · refine finI rfl ?_
    simp at h
    rw [compareT_eq, if_pos h]
  · refine ⟨_, _, cmp_int64 a.i b.i, ?_⟩
    repeat' ((try conv => whnf); with_reducible first | refine AWP.seq ?_ | refine AWP.region (G_ok _ _ _ _) rfl ?_ | refine AWP.draw (G_ok _ _ _ _) rfl [0, 1, 0, 7, 15, 31] [3, 1, 1, 1] rfl rfl ?_ | refine AWP.draw (G_ok _ _ _ _) rfl [0, 1, 3, 0, 8, 24, 63, 0, 128, 0, 512, 2047, 4095, 8191, 16383] [11, 1, 1, 1, 1] rfl rfl ?_ | refine AWP.block ?_ | refine AWP.cond rfl ?_ | refine AWP.ret ?_ | refine AWP.skip ?_ | refine AWP.exit ?_ | refine AWP.label ?_ | refine AWP.goto ?_ | refine Br (fun h => ?_) (fun h => ?_))
    all_goals (try conv => whnf)
    refine finI rfl ?_
    rename_i h1 h2; simp at h1 h
    rw [compareT_eq, if_neg (by simpa using h1), if_pos (.inl h)]
  · refine ⟨_, _, cmp_int64 a.i b.i, ?_⟩
    repeat' ((try conv => whnf); with_reducible first | refine AWP.seq ?_ | refine AWP.region (G_ok _ _ _ _) rfl ?_ | refine AWP.draw (G_ok _ _ _ _) rfl [0, 1, 0, 7, 15, 31] [3, 1, 1, 1] rfl rfl ?_ | refine AWP.draw (G_ok _ _ _ _) rfl [0, 1, 3, 0, 8, 24, 63, 0, 128, 0, 512, 2047, 4095, 8191, 16383] [11, 1, 1, 1, 1] rfl rfl ?_ | refine AWP.block ?_ | refine AWP.cond rfl ?_ | refine AWP.ret ?_ | refine AWP.skip ?_ | refine AWP.exit ?_ | refine AWP.label ?_ | refine AWP.goto ?_ | refine Br (fun h => ?_) (fun h => ?_))
    all_goals (try conv => whnf)
    refine finI rfl ?_
    rename_i h1 h2; simp at h1 h
    rw [compareT_eq, if_neg (by simpa using h1), if_pos (.inr h)]
  · refine ⟨_, _, compareC_ok a.re a.im b.re b.im, ?_⟩
    repeat' ((try conv => whnf); with_reducible first | refine AWP.seq ?_ | refine AWP.region (G_ok _ _ _ _) rfl ?_ | refine AWP.draw (G_ok _ _ _ _) rfl [0, 1, 0, 7, 15, 31] [3, 1, 1, 1] rfl rfl ?_ | refine AWP.draw (G_ok _ _ _ _) rfl [0, 1, 3, 0, 8, 24, 63, 0, 128, 0, 512, 2047, 4095, 8191, 16383] [11, 1, 1, 1, 1] rfl rfl ?_ | refine AWP.block ?_ | refine AWP.cond rfl ?_ | refine AWP.ret ?_ | refine AWP.skip ?_ | refine AWP.exit ?_ | refine AWP.label ?_ | refine AWP.goto ?_ | refine Br (fun h => ?_) (fun h => ?_))
    all_goals (try conv => whnf)
    refine finI rfl ?_
    rename_i h1 h2 h3; simp at h1 h2 h3 h
    rw [compareT_eq, if_neg (by simpa using h1), if_neg (by omega), if_pos h]
  · refine ⟨_, _, cmp_string a.n b.n, ?_⟩
    repeat' ((try conv => whnf); with_reducible first | refine AWP.seq ?_ | refine AWP.region (G_ok _ _ _ _) rfl ?_ | refine AWP.draw (G_ok _ _ _ _) rfl [0, 1, 0, 7, 15, 31] [3, 1, 1, 1] rfl rfl ?_ | refine AWP.draw (G_ok _ _ _ _) rfl [0, 1, 3, 0, 8, 24, 63, 0, 128, 0, 512, 2047, 4095, 8191, 16383] [11, 1, 1, 1, 1] rfl rfl ?_ | refine AWP.block ?_ | refine AWP.cond rfl ?_ | refine AWP.ret ?_ | refine AWP.skip ?_ | refine AWP.exit ?_ | refine AWP.label ?_ | refine AWP.goto ?_ | refine Br (fun h => ?_) (fun h => ?_))
    all_goals (try conv => whnf)
    refine finI rfl ?_
    rename_i h1 h2 h3 h4; simp at h1 h2 h3 h4 h
    rw [compareT_eq, if_neg (by simpa using h1), if_neg (by omega), if_neg (by omega), if_pos h]
  · have hl : ∀ t : Tm, (t.ts.map Tm.enc).length = t.ts.length := fun t => by simp
    refine ⟨_, _, (by have := cmp_int a.ts.length b.ts.length; rw [← hl a, ← hl b] at this; exact this), ?_⟩
    repeat' ((try conv => whnf); with_reducible first | refine AWP.seq ?_ | refine AWP.region (G_ok _ _ _ _) rfl ?_ | refine AWP.draw (G_ok _ _ _ _) rfl [0, 1, 0, 7, 15, 31] [3, 1, 1, 1] rfl rfl ?_ | refine AWP.draw (G_ok _ _ _ _) rfl [0, 1, 3, 0, 8, 24, 63, 0, 128, 0, 512, 2047, 4095, 8191, 16383] [11, 1, 1, 1, 1] rfl rfl ?_ | refine AWP.block ?_ | refine AWP.cond rfl ?_ | refine AWP.ret ?_ | refine AWP.skip ?_ | refine AWP.exit ?_ | refine AWP.label ?_ | refine AWP.goto ?_ | refine Br (fun h => ?_) (fun h => ?_))
    refine ⟨_, _, cmp_string a.n b.n, ?_⟩
    repeat' ((try conv => whnf); with_reducible first | refine AWP.seq ?_ | refine AWP.region (G_ok _ _ _ _) rfl ?_ | refine AWP.draw (G_ok _ _ _ _) rfl [0, 1, 0, 7, 15, 31] [3, 1, 1, 1] rfl rfl ?_ | refine AWP.draw (G_ok _ _ _ _) rfl [0, 1, 3, 0, 8, 24, 63, 0, 128, 0, 512, 2047, 4095, 8191, 16383] [11, 1, 1, 1, 1] rfl rfl ?_ | refine AWP.block ?_ | refine AWP.cond rfl ?_ | refine AWP.ret ?_ | refine AWP.skip ?_ | refine AWP.exit ?_ | refine AWP.label ?_ | refine AWP.goto ?_ | refine Br (fun h => ?_) (fun h => ?_))
    refine ⟨_, _, or_ok [cmpI (a.ts.map Tm.enc).length (b.ts.map Tm.enc).length, cmpS a.n b.n] (by simp), ?_⟩
    repeat' ((try conv => whnf); with_reducible first | refine AWP.seq ?_ | refine AWP.region (G_ok _ _ _ _) rfl ?_ | refine AWP.draw (G_ok _ _ _ _) rfl [0, 1, 0, 7, 15, 31] [3, 1, 1, 1] rfl rfl ?_ | refine AWP.draw (G_ok _ _ _ _) rfl [0, 1, 3, 0, 8, 24, 63, 0, 128, 0, 512, 2047, 4095, 8191, 16383] [11, 1, 1, 1, 1] rfl rfl ?_ | refine AWP.block ?_ | refine AWP.cond rfl ?_ | refine AWP.ret ?_ | refine AWP.skip ?_ | refine AWP.exit ?_ | refine AWP.label ?_ | refine AWP.goto ?_ | refine Br (fun h => ?_) (fun h => ?_))
    all_goals (try conv => whnf)
    · refine finI rfl ?_
      rename_i h1 h2 h3 h4 h5; simp at h1 h2 h3 h4 h5
      rw [hl, hl] at h ⊢
      simp at h
      rw [compareT_eq, if_neg (by simpa using h1), if_neg (by omega), if_neg (by omega), if_neg (by omega), if_pos h]
    · refine ⟨_, _, compareFunc_ok 48 a.ts b.ts (fun x hx y hy => compare_ok x y (ha.arg x hx) (hb.arg y hy)) ha.len hb.len, ?_⟩
      repeat' ((try conv => whnf); with_reducible first | refine AWP.seq ?_ | refine AWP.region (G_ok _ _ _ _) rfl ?_ | refine AWP.draw (G_ok _ _ _ _) rfl [0, 1, 0, 7, 15, 31] [3, 1, 1, 1] rfl rfl ?_ | refine AWP.draw (G_ok _ _ _ _) rfl [0, 1, 3, 0, 8, 24, 63, 0, 128, 0, 512, 2047, 4095, 8191, 16383] [11, 1, 1, 1, 1] rfl rfl ?_ | refine AWP.block ?_ | refine AWP.cond rfl ?_ | refine AWP.ret ?_ | refine AWP.skip ?_ | refine AWP.exit ?_ | refine AWP.label ?_ | refine AWP.goto ?_ | refine Br (fun h => ?_) (fun h => ?_))
      all_goals (try conv => whnf)
      refine finI rfl ?_
      rename_i h1 h2 h3 h4 h5; simp at h1 h2 h3 h4 h5
      rw [hl, hl] at h
      simp at h
      rw [compareT_eq, if_neg (by simpa using h1), if_neg (by omega), if_neg (by omega), if_neg (by omega), if_neg (by simpa using h)]
termination_by a
decreasing_by exact Tm.size_lt hx

end Go.Vai

/- The reference's own walk: light, May. No condition. -/
namespace Go.Vai
open Go.Proofs

mutual
def light : Tm → Int → Int → Int
  | .mk _ n _ _ _ ts, d, left => if left < 1 ∨ d > 700 ∨ n.size > 400 ∨ ts.length > 60 then -1 else lights ts (d + 1) (left - 1)
def lights : List Tm → Int → Int → Int
  | [], _, left => left
  | t :: r, d, left => if light t d left < 0 then -1 else lights r d (light t d left)
end
theorem light_eq (t : Tm) (d left : Int) : light t d left = if left < 1 ∨ d > 700 ∨ t.n.size > 400 ∨ t.ts.length > 60 then -1 else lights t.ts (d + 1) (left - 1) := by cases t; rfl

mutual
theorem light_le : ∀ (t : Tm) (d left : Int), light t d left ≤ left ∨ light t d left = -1
  | .mk k n i re im ts, d, left => by
    rw [light_eq]
    split
    · exact .inr rfl
    · have := lights_le ts (d + 1) (left - 1)
      show lights ts (d + 1) (left - 1) ≤ left ∨ _ 
      omega
theorem lights_le : ∀ (ts : List Tm) (d left : Int), lights ts d left ≤ left ∨ lights ts d left = -1
  | [], _, _ => .inl (Int.le_refl _)
  | t :: r, d, left => by
    rw [lights]
    split
    · exact .inr rfl
    · have h1 := light_le t d left
      have h2 := lights_le r d (light t d left)
      omega
end

theorem light_ok (t : Tm) (d left : Int) (hd : 0 ≤ d) (hl : left ≤ 4000) (hlo : -1 ≤ left) : Snd 46 [t.pv, iv d, iv left] [iv (light t d left)] := by
  refine sound_pure (Γ := G 45 (fun _ => false) (fun _ => false) (fun _ => false)) (G_ok _ _ _ _) Try.func46 rfl (by decide) rfl rfl rfl ?_
  repeat' ((try conv => whnf); with_reducible first | refine AWP.seq ?_ | refine AWP.region (G_ok _ _ _ _) rfl ?_ | refine AWP.block ?_ | refine AWP.cond rfl ?_ | refine AWP.ret ?_ | refine AWP.skip ?_ | refine AWP.exit ?_ | refine AWP.label ?_ | refine AWP.goto ?_ | refine Br (fun h => ?_) (fun h => ?_))
  all_goals (try conv => whnf)
  · refine finI rfl ?_; simp at h; rw [light_eq, if_pos (by omega)]
  · refine finI rfl ?_; simp at h; rw [light_eq, if_pos (by omega)]
  · refine finI rfl ?_; simp at h; rw [light_eq, if_pos (by omega)]
  · refine finI rfl ?_; simp at h; rw [light_eq, if_pos (by omega)]
  rename_i h1 h2 h3
  simp at h1 h2 h3 h
  have hw : IntKind.i64.wrap (left - 1) = left - 1 := i64_of (by omega) (by omega)
  have hw2 : IntKind.i64.wrap (d + 1) = d + 1 := i64_of (by omega) (by omega)
  have he : light t d left = lights t.ts (d + 1) (left - 1) := by rw [light_eq, if_neg (by omega)]
  refine AWP.loop (fun m st => ∃ (j : Nat) (l : Int), m = t.ts.length - j ∧ j ≤ t.ts.length ∧ Has st [(1, iv d), (2, iv l), (30, .slc 6 (t.ts.map Tm.enc) false), (31, iv (t.ts.map Tm.enc).length), (32, iv j)] []
    ∧ (l ≤ 4000 ∧ 0 ≤ l) ∧ lights (t.ts.drop j) (d + 1) l = light t d left) t.ts.length ⟨0, _, rfl, Nat.zero_le _, ⟨⟨rfl, rfl, rfl, rfl, rfl, trivial⟩, trivial⟩, by rw [hw]; omega, by rw [hw, he]; rfl⟩ ?_
  rintro m st ⟨j, l, rfl, hj, hst, hl4, hr⟩
  obtain ⟨f, H, rfl⟩ := hst.canon
  repeat' ((try conv => whnf); with_reducible first | refine AWP.seq ?_ | refine AWP.region (G_ok _ _ _ _) rfl ?_ | refine AWP.block ?_ | refine AWP.cond rfl ?_ | refine AWP.ret ?_ | refine AWP.skip ?_ | refine AWP.exit ?_ | refine AWP.label ?_ | refine AWP.goto ?_ | refine Br (fun h => ?_) (fun h => ?_))
  all_goals (try conv => whnf)
  · have hj2 : j < t.ts.length := by simpa using h
    have hmem : t.ts[j] ∈ t.ts := List.getElem_mem hj2
    have hdrop : t.ts.drop j = t.ts[j] :: t.ts.drop (j + 1) := List.drop_eq_getElem_cons hj2
    rw [hdrop, lights] at hr
    refine ⟨by omega, (t.ts[j]).cells, by simp [hj2, Tm.enc_eq], ?_⟩
    repeat' ((try conv => whnf); with_reducible first | refine AWP.seq ?_ | refine AWP.region (G_ok _ _ _ _) rfl ?_ | refine AWP.block ?_ | refine AWP.cond rfl ?_ | refine AWP.ret ?_ | refine AWP.skip ?_ | refine AWP.exit ?_ | refine AWP.label ?_ | refine AWP.goto ?_ | refine Br (fun h => ?_) (fun h => ?_))
    have ih := light_ok (t.ts[j]) (d + 1) l (by omega) hl4.1 (by omega)
    refine ⟨_, _, hw2.symm ▸ ih, ?_⟩
    repeat' ((try conv => whnf); with_reducible first | refine AWP.seq ?_ | refine AWP.region (G_ok _ _ _ _) rfl ?_ | refine AWP.block ?_ | refine AWP.cond rfl ?_ | refine AWP.ret ?_ | refine AWP.skip ?_ | refine AWP.exit ?_ | refine AWP.label ?_ | refine AWP.goto ?_ | refine Br (fun h => ?_) (fun h => ?_))
    all_goals (try conv => whnf)
    · refine finI rfl ?_
      rw [hw2] at h
      simp at h
      rw [← hr, if_pos h]
    · rw [hw2] at h
      simp at h
      have hw3 : IntKind.i64.wrap ((j : Int) + 1) = ((j + 1 : Nat) : Int) := i64_of (by omega) (by omega)
      have := light_le (t.ts[j]) (d + 1) l
      refine ⟨t.ts.length - (j + 1), by omega, j + 1, light t.ts[j] (d + 1) l, rfl, hj2, ⟨⟨rfl, by show PV.s (.int .i64 (light t.ts[j] (IntKind.i64.wrap (d + 1)) l)) = _; rw [hw2], rfl, rfl, by show PV.s (.int .i64 (IntKind.i64.wrap ((j : Int) + 1))) = _; rw [hw3], trivial⟩, trivial⟩, by omega, ?_⟩
      rw [← hr, if_neg (by omega)]
  · have hj2 : j = t.ts.length := by simp at h; omega
    refine finI rfl ?_
    rw [← hr, hj2]; simp [lights]
termination_by t
decreasing_by exact Tm.size_lt hmem

end Go.Vai

/- The reference's own walk: May. No condition. -/
namespace Go.Vai
open Go.Proofs

abbrev badT (t : Tm) : Prop := t.k < 1 ∨ t.k > 5 ∨ (t.k = 1 ∧ t.i < 0) ∨ (t.k = 5 ∧ t.ts.length = 0)
abbrev bigT (t : Tm) : Prop := ((t.k = 2 ∨ t.k = 5) ∧ t.n.size > 200) ∨ (t.k = 5 ∧ t.ts.length > 20)

mutual
def walkT : Tm → Int → Int × Int → Int × Int
  | .mk k n i re im ts, d, s => if s.2 ≠ 0 then s else if s.1 + 1 > 2000 ∨ d > 500 then (s.1 + 1, 3) else if badT (.mk k n i re im ts) then (s.1 + 1, 1) else if bigT (.mk k n i re im ts) then (s.1 + 1, 3)
    else if k = 5 then walkL ts (d + 1) (s.1 + 1, 0) else (s.1 + 1, 0)
def walkL : List Tm → Int → Int × Int → Int × Int
  | [], _, s => s
  | t :: r, d, s => walkL r d (walkT t d s)
end
theorem walkT_eq (t : Tm) (d : Int) (s : Int × Int) : walkT t d s = if s.2 ≠ 0 then s else if s.1 + 1 > 2000 ∨ d > 500 then (s.1 + 1, 3) else if badT t then (s.1 + 1, 1) else if bigT t then (s.1 + 1, 3)
    else if t.k = 5 then walkL t.ts (d + 1) (s.1 + 1, 0) else (s.1 + 1, 0) := by cases t; rw [walkT]; rfl

def okW (s : Int × Int) : Prop := 0 ≤ s.1 ∧ (s.2 = 0 → s.1 ≤ 2000)
mutual
theorem walkT_ok : ∀ (t : Tm) (d : Int) (s : Int × Int), okW s → okW (walkT t d s)
  | .mk k n i re im ts, d, s, h => by
    have h' := h
    unfold okW at h'
    rw [walkT_eq]
    split
    · exact h
    split
    · exact ⟨by show 0 ≤ s.1 + 1; omega, fun e => by cases e⟩
    split
    · exact ⟨by show 0 ≤ s.1 + 1; omega, fun e => by cases e⟩
    split
    · exact ⟨by show 0 ≤ s.1 + 1; omega, fun e => by cases e⟩
    split
    · exact walkL_ok ts (d + 1) (s.1 + 1, 0) ⟨by show 0 ≤ s.1 + 1; omega, fun _ => by show s.1 + 1 ≤ 2000; omega⟩
    · exact ⟨by show 0 ≤ s.1 + 1; omega, fun _ => by show s.1 + 1 ≤ 2000; omega⟩
theorem walkL_ok : ∀ (ts : List Tm) (d : Int) (s : Int × Int), okW s → okW (walkL ts d s)
  | [], _, _, h => h
  | t :: r, d, s, h => walkL_ok r d _ (walkT_ok t d s h)
end

theorem handsII {st : St} {x y : Int} {s : Int × Int} (h : st.H 0 = some (.cell [iv x, iv y])) (hs : (x, y) = s) : ∃ ks, HandsW 1 [] st [] [.cell [iv s.1, iv s.2]] ks := by
  subst hs
  exact handsCell h rfl

theorem walk_ok (t : Tm) (d : Int) (s : Int × Int) (hs : okW s) (hd : 0 ≤ d ∧ d ≤ 501) (ht : t.Fit) :
    SoundAt Try.prog 50 [.ptr 0 0 0, t.pv, iv d] [.cell [iv s.1, iv s.2]] (tupOf []) [.cell [iv (walkT t d s).1, iv (walkT t d s).2]] := by
  refine sound_fn (Γ := G 118 (fun g => Nat.beq g 50) (fun _ => false) (fun _ => false)) (G_ok _ _ _ _) false Try.func50 rfl (by decide) rfl (Nat.le_of_ble_eq_true rfl) (Nat.le_refl _) (Nat.le_of_ble_eq_true rfl) (fun k hk => by cases hk) ?_
  have hw : s.2 = 0 → IntKind.i64.wrap (s.1 + 1) = s.1 + 1 := fun e => i64_of (by have := hs.1; omega) (by have := hs.2 e; omega)
  repeat' ((try conv => whnf); with_reducible first | refine AWP.seq ?_ | refine AWP.region (G_ok _ _ _ _) rfl ?_ | refine AWP.block ?_ | refine AWP.cond rfl ?_ | refine AWP.ret ?_ | refine AWP.skip ?_ | refine AWP.exit ?_ | refine AWP.label ?_ | refine AWP.goto ?_ | (refine Br (fun h => ?_) (fun h => ?_) <;> try (exfalso; simp only [decide_eq_true_eq, decide_eq_false_iff_not, beq_iff_eq, beq_eq_false_iff_ne, bne_iff_ne, bne_eq_false_iff_eq, ne_eq, List.length_map, List.length_append, List.length_cons, List.length_nil] at *; omega)))
  all_goals (try conv => whnf)
  all_goals try (refine handsII rfl ?_; rw [walkT_eq]; simp only [badT, bigT, decide_eq_true_eq, decide_eq_false_iff_not, beq_iff_eq, beq_eq_false_iff_ne, bne_iff_ne, bne_eq_false_iff_eq, ne_eq, List.length_map] at *; (repeat first | rw [if_pos (by omega)] | rw [if_neg (by omega)]); all_goals first | rfl | (rw [Prod.mk.injEq]; constructor <;> omega))
  simp only [decide_eq_true_eq, decide_eq_false_iff_not, beq_iff_eq, beq_eq_false_iff_ne, bne_iff_ne, bne_eq_false_iff_eq, ne_eq, List.length_map] at *
  have hw1 := hw (by omega)
  have hspec : walkT t d s = walkL t.ts (d + 1) (s.1 + 1, 0) := by
    rw [walkT_eq]
    (repeat first | rw [if_pos (by omega)] | rw [if_neg (by omega)])
  have hs20 : s.2 = 0 := by assumption
  have hd5 : ¬ d > 500 := by assumption
  have hd1 : IntKind.i64.wrap (d + 1) = d + 1 := i64_of (by omega) (by omega)
  have hok1 : okW (s.1 + 1, 0) := by
    have h1 := hs.1
    exact ⟨by show 0 ≤ s.1 + 1; omega, fun _ => by show s.1 + 1 ≤ 2000; omega⟩
  refine AWP.loop (fun m st => ∃ (j : Nat) (q : Int × Int), m = t.ts.length - j ∧ j ≤ t.ts.length ∧ Has st [(0, .ptr 0 0 0), (2, iv d), (106, .slc 6 (t.ts.map Tm.enc) false), (107, iv t.ts.length), (108, iv j)] [(0, .cell [iv q.1, iv q.2])]
    ∧ okW q ∧ walkL (t.ts.drop j) (d + 1) q = walkT t d s) t.ts.length ⟨0, (IntKind.i64.wrap (s.1 + 1), s.2), rfl, Nat.zero_le _, ⟨⟨rfl, rfl, rfl, rfl, rfl, trivial⟩, ⟨rfl, trivial⟩⟩, by rw [hw1, hs20]; exact hok1, by rw [hw1, hs20, hspec]; rfl⟩ ?_
  rintro m st ⟨j, q, rfl, hj, hst, hq, hr⟩
  obtain ⟨f, H, rfl⟩ := hst.canon
  repeat' ((try conv => whnf); with_reducible first | refine AWP.seq ?_ | refine AWP.region (G_ok _ _ _ _) rfl ?_ | refine AWP.block ?_ | refine AWP.cond rfl ?_ | refine AWP.ret ?_ | refine AWP.skip ?_ | refine AWP.exit ?_ | refine AWP.label ?_ | refine AWP.goto ?_ | refine Br (fun h => ?_) (fun h => ?_))
  all_goals (try conv => whnf)
  · have hj2 : j < t.ts.length := by simpa using h
    have hmem : t.ts[j] ∈ t.ts := List.getElem_mem hj2
    have hdrop : t.ts.drop j = t.ts[j] :: t.ts.drop (j + 1) := List.drop_eq_getElem_cons hj2
    rw [hdrop, walkL] at hr
    refine ⟨by omega, (t.ts[j]).cells, by simp [hj2, Tm.enc_eq], ?_⟩
    repeat' ((try conv => whnf); with_reducible first | refine AWP.seq ?_ | refine AWP.region (G_ok _ _ _ _) rfl ?_ | refine AWP.block ?_ | refine AWP.cond rfl ?_ | refine AWP.ret ?_ | refine AWP.skip ?_ | refine AWP.exit ?_ | refine AWP.label ?_ | refine AWP.goto ?_ | refine Br (fun h => ?_) (fun h => ?_))
    have ih := walk_ok (t.ts[j]) (d + 1) q hq (by omega) (ht.arg _ hmem)
    refine ⟨[0], [.ptr 0 0 0, (t.ts[j]).pv, iv (IntKind.i64.wrap (d + 1))], [.cell [iv q.1, iv q.2]], .tup [], [.cell [iv (walkT (t.ts[j]) (d + 1) q).1, iv (walkT (t.ts[j]) (d + 1) q).2]], ⟨rfl, rfl, rfl, ⟨rfl, trivial⟩, rfl, rfl, rfl, rfl, rfl⟩, by rw [hd1]; exact ih, ?_⟩
    repeat' ((try conv => whnf); with_reducible first | refine AWP.seq ?_ | refine AWP.region (G_ok _ _ _ _) rfl ?_ | refine AWP.block ?_ | refine AWP.cond rfl ?_ | refine AWP.ret ?_ | refine AWP.skip ?_ | refine AWP.exit ?_ | refine AWP.label ?_ | refine AWP.goto ?_ | refine Br (fun h => ?_) (fun h => ?_))
    all_goals (try conv => whnf)
    have hw3 : IntKind.i64.wrap ((j : Int) + 1) = ((j + 1 : Nat) : Int) := i64_of (by omega) (by have := ht.len; omega)
    refine ⟨t.ts.length - (j + 1), by omega, j + 1, walkT (t.ts[j]) (d + 1) q, rfl, hj2, ⟨⟨rfl, rfl, rfl, rfl, by show PV.s (.int .i64 (IntKind.i64.wrap ((j : Int) + 1))) = _; rw [hw3], trivial⟩, ⟨rfl, trivial⟩⟩, walkT_ok _ _ _ hq, hr⟩
  · have hj2 : j = t.ts.length := by simp at h; omega
    refine handsII rfl ?_
    rw [← hr, hj2]; simp [walkL]
termination_by t
decreasing_by exact Tm.size_lt hmem

end Go.Vai

/- The reference's May and Light; the reference's makers of terms. No condition. -/
namespace Go.Vai
open Go.Proofs

theorem refMay_ok (t : Tm) (ht : t.Fit) : Snd 25 [t.pv] [iv (walkT t 1 (0, 0)).2] := by
  refine sound_pure (Γ := G 13 (fun g => Nat.beq g 50) (fun _ => false) (fun _ => false)) (G_ok _ _ _ _) Try.func25 rfl (by decide) rfl rfl rfl ?_
  repeat' ((try conv => whnf); with_reducible first | refine AWP.seq ?_ | refine AWP.region (G_ok _ _ _ _) rfl ?_ | refine AWP.block ?_ | refine AWP.cond rfl ?_ | refine AWP.ret ?_ | refine AWP.skip ?_ | refine AWP.exit ?_ | refine AWP.label ?_ | refine AWP.goto ?_ | refine Br (fun h => ?_) (fun h => ?_))
  refine ⟨[105], [.ptr 0 0 0, t.pv, iv 1], [.cell [iv 0, iv 0]], .tup [], [.cell [iv (walkT t 1 (0, 0)).1, iv (walkT t 1 (0, 0)).2]], ⟨rfl, rfl, rfl, ⟨rfl, trivial⟩, rfl, rfl, rfl, rfl, rfl⟩, walk_ok t 1 (0, 0) ⟨by show (0:Int) ≤ 0; omega, fun _ => by show (0:Int) ≤ 2000; omega⟩ ⟨by omega, by omega⟩ ht, ?_⟩
  repeat' ((try conv => whnf); with_reducible first | refine AWP.seq ?_ | refine AWP.region (G_ok _ _ _ _) rfl ?_ | refine AWP.block ?_ | refine AWP.cond rfl ?_ | refine AWP.ret ?_ | refine AWP.skip ?_ | refine AWP.exit ?_ | refine AWP.label ?_ | refine AWP.goto ?_ | refine Br (fun h => ?_) (fun h => ?_))
  all_goals (try conv => whnf)
  refine finI rfl rfl

abbrev es0 : ByteArray := ⟨#[]⟩
def mkInt (n : Int) : Tm := .mk 3 es0 n 0 0 []
def mkVar (n : Int) : Tm := .mk 1 es0 n 0 0 []
def mkAtom (s : ByteArray) : Tm := .mk 2 s 0 0 0 []
def mkComp (s : ByteArray) (ts : List Tm) : Tm := .mk 5 s 0 0 0 ts

theorem refInt_ok (n : Int) : Snd 15 [iv n] [(mkInt n).pv] := by
  refine sound_pure (Γ := G 5 (fun _ => false) (fun _ => false) (fun _ => false)) (G_ok _ _ _ _) Try.func15 rfl (by decide) rfl rfl rfl ?_
  repeat' ((try conv => whnf); with_reducible first | refine AWP.seq ?_ | refine AWP.region (G_ok _ _ _ _) rfl ?_ | refine AWP.block ?_ | refine AWP.cond rfl ?_ | refine AWP.ret ?_ | refine AWP.skip ?_ | refine AWP.exit ?_ | refine AWP.label ?_ | refine AWP.goto ?_ | refine Br (fun h => ?_) (fun h => ?_))
  all_goals (try conv => whnf)
  exact finP rfl rfl
theorem refVar_ok (n : Int) : Snd 16 [iv n] [(mkVar n).pv] := by
  refine sound_pure (Γ := G 5 (fun _ => false) (fun _ => false) (fun _ => false)) (G_ok _ _ _ _) Try.func16 rfl (by decide) rfl rfl rfl ?_
  repeat' ((try conv => whnf); with_reducible first | refine AWP.seq ?_ | refine AWP.region (G_ok _ _ _ _) rfl ?_ | refine AWP.block ?_ | refine AWP.cond rfl ?_ | refine AWP.ret ?_ | refine AWP.skip ?_ | refine AWP.exit ?_ | refine AWP.label ?_ | refine AWP.goto ?_ | refine Br (fun h => ?_) (fun h => ?_))
  all_goals (try conv => whnf)
  exact finP rfl rfl
theorem refAtom_ok (s : ByteArray) : Snd 19 [sv s] [(mkAtom s).pv] := by
  refine sound_pure (Γ := G 5 (fun _ => false) (fun _ => false) (fun _ => false)) (G_ok _ _ _ _) Try.func19 rfl (by decide) rfl rfl rfl ?_
  repeat' ((try conv => whnf); with_reducible first | refine AWP.seq ?_ | refine AWP.region (G_ok _ _ _ _) rfl ?_ | refine AWP.block ?_ | refine AWP.cond rfl ?_ | refine AWP.ret ?_ | refine AWP.skip ?_ | refine AWP.exit ?_ | refine AWP.label ?_ | refine AWP.goto ?_ | refine Br (fun h => ?_) (fun h => ?_))
  all_goals (try conv => whnf)
  exact finP rfl rfl
theorem refComp_ok (s : ByteArray) (ts : List Tm) : Snd 18 [sv s, tsv ts] [(mkComp s ts).pv] := by
  refine sound_pure (Γ := G 8 (fun _ => false) (fun _ => false) (fun _ => false)) (G_ok _ _ _ _) Try.func18 rfl (by decide) rfl rfl rfl ?_
  repeat' ((try conv => whnf); with_reducible first | refine AWP.seq ?_ | refine AWP.region (G_ok _ _ _ _) rfl ?_ | refine AWP.block ?_ | refine AWP.cond rfl ?_ | refine AWP.ret ?_ | refine AWP.skip ?_ | refine AWP.exit ?_ | refine AWP.label ?_ | refine AWP.goto ?_ | refine Br (fun h => ?_) (fun h => ?_))
  all_goals (try conv => whnf)
  exact finP rfl rfl

def lightF : List Tm → Nat → Int → Bool
  | [], _, _ => true
  | t :: r, i, left => if 100 ≤ i ∨ light t 1 left < 0 then false else lightF r (i + 1) (light t 1 left)
theorem refLight_ok (l : List Tm) (hl : l.length ≤ 1000000) : Snd 21 [tsv l] [bv (lightF l 0 4000)] := by
  refine sound_pure (Γ := G 23 (fun _ => false) (fun _ => false) (fun _ => false)) (G_ok _ _ _ _) Try.func21 rfl (by decide) rfl rfl rfl ?_
  repeat' ((try conv => whnf); with_reducible first | refine AWP.seq ?_ | refine AWP.region (G_ok _ _ _ _) rfl ?_ | refine AWP.block ?_ | refine AWP.cond rfl ?_ | refine AWP.ret ?_ | refine AWP.skip ?_ | refine AWP.exit ?_ | refine AWP.label ?_ | refine AWP.goto ?_ | refine Br (fun h => ?_) (fun h => ?_))
  refine AWP.loop (fun m st => ∃ (j : Nat) (q : Int), m = l.length - j ∧ j ≤ l.length ∧ Has st [(3, iv q), (6, tsv l), (7, iv (l.map Tm.enc).length), (8, iv j)] [] ∧ (0 ≤ q ∧ q ≤ 4000) ∧ lightF (l.drop j) j q = lightF l 0 4000) l.length ⟨0, 4000, rfl, Nat.zero_le _, ⟨⟨rfl, rfl, rfl, rfl, trivial⟩, trivial⟩, by omega, rfl⟩ ?_
  rintro m st ⟨j, q, rfl, hj, hst, hq, hr⟩
  obtain ⟨f, H, rfl⟩ := hst.canon
  repeat' ((try conv => whnf); with_reducible first | refine AWP.seq ?_ | refine AWP.region (G_ok _ _ _ _) rfl ?_ | refine AWP.block ?_ | refine AWP.cond rfl ?_ | refine AWP.ret ?_ | refine AWP.skip ?_ | refine AWP.exit ?_ | refine AWP.label ?_ | refine AWP.goto ?_ | refine Br (fun h => ?_) (fun h => ?_))
  all_goals (try conv => whnf)
  · have hj2 : j < l.length := by simpa using h
    have hd : l.drop j = l[j] :: l.drop (j + 1) := List.drop_eq_getElem_cons hj2
    rw [hd, lightF] at hr
    refine ⟨by omega, (l[j]).cells, by simp [hj2, Tm.enc_eq], ?_⟩
    repeat' ((try conv => whnf); with_reducible first | refine AWP.seq ?_ | refine AWP.region (G_ok _ _ _ _) rfl ?_ | refine AWP.block ?_ | refine AWP.cond rfl ?_ | refine AWP.ret ?_ | refine AWP.skip ?_ | refine AWP.exit ?_ | refine AWP.label ?_ | refine AWP.goto ?_ | refine Br (fun h => ?_) (fun h => ?_))
    refine ⟨_, _, light_ok l[j] 1 q (by omega) hq.2 (by omega), ?_⟩
    repeat' ((try conv => whnf); with_reducible first | refine AWP.seq ?_ | refine AWP.region (G_ok _ _ _ _) rfl ?_ | refine AWP.block ?_ | refine AWP.cond rfl ?_ | refine AWP.ret ?_ | refine AWP.skip ?_ | refine AWP.exit ?_ | refine AWP.label ?_ | refine AWP.goto ?_ | refine Br (fun h => ?_) (fun h => ?_))
    all_goals (try conv => whnf)
    · refine finB rfl ?_
      simp at h
      rw [← hr, if_pos (by omega)]
    · refine finB rfl ?_
      simp at h
      rw [← hr, if_pos (by omega)]
    · rename_i h1
      simp at h h1
      have hw3 : IntKind.i64.wrap ((j : Int) + 1) = ((j + 1 : Nat) : Int) := i64_of (by omega) (by omega)
      have := light_le (l[j]) 1 q
      refine ⟨l.length - (j + 1), by omega, j + 1, light l[j] 1 q, rfl, hj2, ⟨⟨rfl, rfl, rfl, by show PV.s (.int .i64 (IntKind.i64.wrap ((j : Int) + 1))) = _; rw [hw3], trivial⟩, trivial⟩, by omega, ?_⟩
      rw [← hr, if_neg (by omega)]
  · have hj2 : j = l.length := by simp at h; omega
    refine finB rfl ?_
    rw [← hr, hj2]; simp [lightF]

end Go.Vai

/- The program's own check of one term. No condition. -/
namespace Go.Vai
open Go.Proofs

def oneT (t : Tm) : Int := if badT t then 1 else if bigT t then 3 else 0
theorem one_ok (t : Tm) (ht : t.ts.length ≤ 1000000) : Snd 90 [t.pv] [iv (oneT t)] := by
  refine sound_pure (Γ := G 40 (fun _ => false) (fun _ => false) (fun _ => false)) (G_ok _ _ _ _) Try.func90 rfl (by decide) rfl rfl rfl ?_
  repeat' ((try conv => whnf); with_reducible first | refine AWP.seq ?_ | refine AWP.region (G_ok _ _ _ _) rfl ?_ | refine AWP.block ?_ | refine AWP.cond rfl ?_ | refine AWP.ret ?_ | refine AWP.skip ?_ | refine AWP.exit ?_ | refine AWP.label ?_ | refine AWP.goto ?_ | (refine Br (fun h => ?_) (fun h => ?_) <;> try (exfalso; simp only [decide_eq_true_eq, decide_eq_false_iff_not, beq_iff_eq, beq_eq_false_iff_ne, bne_iff_ne, bne_eq_false_iff_eq, ne_eq, List.length_map, List.length_append, List.length_cons, List.length_nil] at *; omega)))
  all_goals (try conv => whnf)
  all_goals (refine finI rfl ?_; unfold oneT; simp only [decide_eq_true_eq, decide_eq_false_iff_not, beq_iff_eq, beq_eq_false_iff_ne, bne_iff_ne, bne_eq_false_iff_eq, ne_eq, List.length_map] at *; (repeat first | rw [if_pos (by omega)] | rw [if_neg (by omega)]))

end Go.Vai

/- Copies of terms. No condition. -/
namespace Go.Vai
open Go.Proofs

mutual
def turnT (g : Int → Tm) : Tm → Tm
  | .mk k n i re im ts => if k = 1 then g i else if k = 2 then .mk k n 0 0 0 [] else if k = 3 then .mk k es0 i 0 0 [] else if k = 4 then .mk k es0 0 re im [] else if k = 5 then .mk k n 0 0 0 (turnL g ts) else .mk k es0 0 0 0 []
def turnL (g : Int → Tm) : List Tm → List Tm
  | [] => []
  | t :: r => turnT g t :: turnL g r
end
theorem turnL_map (g : Int → Tm) : ∀ ts, turnL g ts = ts.map (turnT g) | [] => rfl | t :: r => by rw [turnL, turnL_map g r]; rfl
theorem turnT_eq (g : Int → Tm) (t : Tm) : turnT g t = if t.k = 1 then g t.i else if t.k = 2 then .mk t.k t.n 0 0 0 [] else if t.k = 3 then .mk t.k es0 t.i 0 0 [] else if t.k = 4 then .mk t.k es0 0 t.re t.im [] else if t.k = 5 then .mk t.k t.n 0 0 0 (turnL g t.ts) else .mk t.k es0 0 0 0 [] := by cases t; rw [turnT]; rfl

theorem turn_ok (v : Nat) (g : Int → Tm) (hv : ∀ i, Snd v [iv i] [(g i).pv]) (t : Tm) (ht : t.Fit) : Snd 68 [t.pv, fnv v] [(turnT g t).pv] := by
  refine sound_pure (Γ := G 59 (fun _ => false) (fun _ => false) (fun _ => false)) (G_ok _ _ _ _) Try.func68 rfl (by decide) rfl rfl rfl ?_
  repeat' ((try conv => whnf); with_reducible first | refine AWP.seq ?_ | refine AWP.region (G_ok _ _ _ _) rfl ?_ | refine AWP.draw (G_ok _ _ _ _) rfl [0, 1, 0, 4, 3, 19, 63, 127] [6, 1, 1] rfl rfl ?_ | refine AWP.draw (G_ok _ _ _ _) rfl [0, 1, 0, 0, 12, 28, 63, 127, 255] [6, 1, 1, 1] rfl rfl ?_ | refine AWP.block ?_ | refine AWP.cond rfl ?_ | refine AWP.ret ?_ | refine AWP.skip ?_ | refine AWP.exit ?_ | refine AWP.label ?_ | refine AWP.goto ?_ | (refine Br (fun h => ?_) (fun h => ?_) <;> try (exfalso; simp only [decide_eq_true_eq, decide_eq_false_iff_not, beq_iff_eq, beq_eq_false_iff_ne, bne_iff_ne, bne_eq_false_iff_eq, ne_eq, List.length_map, List.length_append, List.length_cons, List.length_nil] at *; omega)))
  all_goals (try conv => whnf)
  · simp at h
    refine ⟨_, _, hv t.i, ?_⟩
    repeat' ((try conv => whnf); with_reducible first | refine AWP.seq ?_ | refine AWP.region (G_ok _ _ _ _) rfl ?_ | refine AWP.draw (G_ok _ _ _ _) rfl [0, 1, 0, 4, 3, 19, 63, 127] [6, 1, 1] rfl rfl ?_ | refine AWP.draw (G_ok _ _ _ _) rfl [0, 1, 0, 0, 12, 28, 63, 127, 255] [6, 1, 1, 1] rfl rfl ?_ | refine AWP.block ?_ | refine AWP.cond rfl ?_ | refine AWP.ret ?_ | refine AWP.skip ?_ | refine AWP.exit ?_ | refine AWP.label ?_ | refine AWP.goto ?_ | refine Br (fun h => ?_) (fun h => ?_))
    all_goals (try conv => whnf)
    rw [turnT_eq, if_pos h]
    exact finP rfl rfl
  · rename_i h1
    simp at h h1
    rw [turnT_eq, if_neg h1, if_pos h]
    exact finP rfl rfl
  · rename_i h1 h2
    simp at h h1 h2
    rw [turnT_eq, if_neg h1, if_neg h2, if_pos h]
    exact finP rfl rfl
  · rename_i h1 h2 h3
    simp at h h1 h2 h3
    rw [turnT_eq, if_neg h1, if_neg h2, if_neg h3, if_pos h]
    exact finP rfl rfl
  · rename_i h1 h2 h3 h4
    simp at h h1 h2 h3 h4
    have hspec : turnT g t = .mk t.k t.n 0 0 0 (turnL g t.ts) := by rw [turnT_eq, if_neg h1, if_neg h2, if_neg h3, if_neg h4, if_pos h]
    refine AWP.loop (fun m st => ∃ j : Nat, m = t.ts.length - j ∧ j ≤ t.ts.length ∧ ((j = 0 ∧ Has st [(1, fnv v), (4, .ptr 104 0 0), (5, .ptr 105 0 0), (43, .slc 6 (t.ts.map Tm.enc) false), (44, iv (t.ts.map Tm.enc).length), (45, iv j)] [(104, .cell [iv 0, sv es0, iv 0, uv 0, uv 0, .slc 6 [] true]), (105, .cell [iv t.k, sv t.n, iv 0, uv 0, uv 0, .slc 6 [] true])]) ∨
      Has st [(1, fnv v), (4, .ptr 104 0 0), (5, .ptr 105 0 0), (43, .slc 6 (t.ts.map Tm.enc) false), (44, iv (t.ts.map Tm.enc).length), (45, iv j)] [(104, .cell [iv 0, sv es0, iv 0, uv 0, uv 0, .slc 6 [] true]), (105, .cell [iv t.k, sv t.n, iv 0, uv 0, uv 0, .xs 155 none]), (155, .row 6 ((turnL g (t.ts.take j)).map Tm.enc))])) t.ts.length ⟨0, rfl, Nat.zero_le _, .inl ⟨rfl, ⟨rfl, rfl, rfl, rfl, rfl, rfl, trivial⟩, ⟨rfl, rfl, trivial⟩⟩⟩ ?_
    rintro m st ⟨j, rfl, hj, h5⟩
    have one : ∀ (u : Tm) (i : Nat) e, [u.cells][i]? = some e → e.length = 6 := fun u i e he => by
      cases i with
      | zero => simp at he; subst he; rfl
      | succ i => simp at he
    rcases h5 with ⟨rfl, hst⟩ | hst
    · obtain ⟨f, H, rfl⟩ := hst.canon
      repeat' ((try conv => whnf); with_reducible first | refine AWP.seq ?_ | refine AWP.region (G_ok _ _ _ _) rfl ?_ | refine AWP.draw (G_ok _ _ _ _) rfl [0, 1, 0, 4, 3, 19, 63, 127] [6, 1, 1] rfl rfl ?_ | refine AWP.draw (G_ok _ _ _ _) rfl [0, 1, 0, 0, 12, 28, 63, 127, 255] [6, 1, 1, 1] rfl rfl ?_ | refine AWP.block ?_ | refine AWP.cond rfl ?_ | refine AWP.ret ?_ | refine AWP.skip ?_ | refine AWP.exit ?_ | refine AWP.label ?_ | refine AWP.goto ?_ | refine Br (fun h => ?_) (fun h => ?_))
      all_goals (try conv => whnf)
      · have hj2 : 0 < t.ts.length := by simpa using h
        have hmem : t.ts[0] ∈ t.ts := List.getElem_mem hj2
        refine ⟨by omega, (t.ts[0]).cells, by simp [hj2, Tm.enc_eq], ?_⟩
        repeat' ((try conv => whnf); with_reducible first | refine AWP.seq ?_ | refine AWP.region (G_ok _ _ _ _) rfl ?_ | refine AWP.draw (G_ok _ _ _ _) rfl [0, 1, 0, 4, 3, 19, 63, 127] [6, 1, 1] rfl rfl ?_ | refine AWP.draw (G_ok _ _ _ _) rfl [0, 1, 0, 0, 12, 28, 63, 127, 255] [6, 1, 1, 1] rfl rfl ?_ | refine AWP.block ?_ | refine AWP.cond rfl ?_ | refine AWP.ret ?_ | refine AWP.skip ?_ | refine AWP.exit ?_ | refine AWP.label ?_ | refine AWP.goto ?_ | refine Br (fun h => ?_) (fun h => ?_))
        refine ⟨_, _, turn_ok v g hv t.ts[0] (ht.arg _ hmem), ?_⟩
        repeat' ((try conv => whnf); with_reducible first | refine AWP.seq ?_ | refine AWP.region (G_ok _ _ _ _) rfl ?_ | refine AWP.draw (G_ok _ _ _ _) rfl [0, 1, 0, 4, 3, 19, 63, 127] [6, 1, 1] rfl rfl ?_ | refine AWP.draw (G_ok _ _ _ _) rfl [0, 1, 0, 0, 12, 28, 63, 127, 255] [6, 1, 1, 1] rfl rfl ?_ | refine AWP.block ?_ | refine AWP.cond rfl ?_ | refine AWP.ret ?_ | refine AWP.skip ?_ | refine AWP.exit ?_ | refine AWP.label ?_ | refine AWP.goto ?_ | refine Br (fun h => ?_) (fun h => ?_))
        all_goals (try conv => whnf)
        refine ⟨⟨one (turnT g t.ts[0]), .inl rfl, Nat.le_of_ble_eq_true rfl⟩, ?_⟩
        repeat' ((try conv => whnf); with_reducible first | refine AWP.seq ?_ | refine AWP.region (G_ok _ _ _ _) rfl ?_ | refine AWP.draw (G_ok _ _ _ _) rfl [0, 1, 0, 4, 3, 19, 63, 127] [6, 1, 1] rfl rfl ?_ | refine AWP.draw (G_ok _ _ _ _) rfl [0, 1, 0, 0, 12, 28, 63, 127, 255] [6, 1, 1, 1] rfl rfl ?_ | refine AWP.block ?_ | refine AWP.cond rfl ?_ | refine AWP.ret ?_ | refine AWP.skip ?_ | refine AWP.exit ?_ | refine AWP.label ?_ | refine AWP.goto ?_ | refine Br (fun h => ?_) (fun h => ?_))
        all_goals (try conv => whnf)
        have hw3 : IntKind.i64.wrap (((0 : Nat) : Int) + 1) = ((0 + 1 : Nat) : Int) := rfl
        have htk : t.ts.take 1 = [t.ts[0]] := by have := List.take_succ_eq_append_getElem hj2; simpa using this
        refine ⟨t.ts.length - (0 + 1), by omega, 0 + 1, rfl, hj2, .inr ⟨⟨rfl, rfl, rfl, rfl, rfl, rfl, trivial⟩, ⟨rfl, rfl, by rw [htk]; simp only [turnL, List.map, Tm.enc_eq]; rfl, trivial⟩⟩⟩
      · simp at h
        rw [hspec, h]
        exact finP rfl rfl
    · obtain ⟨f, H, rfl⟩ := hst.canon
      repeat' ((try conv => whnf); with_reducible first | refine AWP.seq ?_ | refine AWP.region (G_ok _ _ _ _) rfl ?_ | refine AWP.draw (G_ok _ _ _ _) rfl [0, 1, 0, 4, 3, 19, 63, 127] [6, 1, 1] rfl rfl ?_ | refine AWP.draw (G_ok _ _ _ _) rfl [0, 1, 0, 0, 12, 28, 63, 127, 255] [6, 1, 1, 1] rfl rfl ?_ | refine AWP.block ?_ | refine AWP.cond rfl ?_ | refine AWP.ret ?_ | refine AWP.skip ?_ | refine AWP.exit ?_ | refine AWP.label ?_ | refine AWP.goto ?_ | refine Br (fun h => ?_) (fun h => ?_))
      all_goals (try conv => whnf)
      · have hj2 : j < t.ts.length := by simpa using h
        have hmem : t.ts[j] ∈ t.ts := List.getElem_mem hj2
        have hlen := ht.len
        refine ⟨by omega, (t.ts[j]).cells, by simp [hj2, Tm.enc_eq], ?_⟩
        repeat' ((try conv => whnf); with_reducible first | refine AWP.seq ?_ | refine AWP.region (G_ok _ _ _ _) rfl ?_ | refine AWP.draw (G_ok _ _ _ _) rfl [0, 1, 0, 4, 3, 19, 63, 127] [6, 1, 1] rfl rfl ?_ | refine AWP.draw (G_ok _ _ _ _) rfl [0, 1, 0, 0, 12, 28, 63, 127, 255] [6, 1, 1, 1] rfl rfl ?_ | refine AWP.block ?_ | refine AWP.cond rfl ?_ | refine AWP.ret ?_ | refine AWP.skip ?_ | refine AWP.exit ?_ | refine AWP.label ?_ | refine AWP.goto ?_ | refine Br (fun h => ?_) (fun h => ?_))
        refine ⟨_, _, turn_ok v g hv t.ts[j] (ht.arg _ hmem), ?_⟩
        repeat' ((try conv => whnf); with_reducible first | refine AWP.seq ?_ | refine AWP.region (G_ok _ _ _ _) rfl ?_ | refine AWP.draw (G_ok _ _ _ _) rfl [0, 1, 0, 4, 3, 19, 63, 127] [6, 1, 1] rfl rfl ?_ | refine AWP.draw (G_ok _ _ _ _) rfl [0, 1, 0, 0, 12, 28, 63, 127, 255] [6, 1, 1, 1] rfl rfl ?_ | refine AWP.block ?_ | refine AWP.cond rfl ?_ | refine AWP.ret ?_ | refine AWP.skip ?_ | refine AWP.exit ?_ | refine AWP.label ?_ | refine AWP.goto ?_ | refine Br (fun h => ?_) (fun h => ?_))
        all_goals (try conv => whnf)
        refine ⟨⟨one (turnT g t.ts[j]), ?_⟩, ?_⟩
        · show ((turnL g (t.ts.take j)).map Tm.enc).length + 1 ≤ 1073741824
          simp [turnL_map]; omega
        repeat' ((try conv => whnf); with_reducible first | refine AWP.seq ?_ | refine AWP.region (G_ok _ _ _ _) rfl ?_ | refine AWP.draw (G_ok _ _ _ _) rfl [0, 1, 0, 4, 3, 19, 63, 127] [6, 1, 1] rfl rfl ?_ | refine AWP.draw (G_ok _ _ _ _) rfl [0, 1, 0, 0, 12, 28, 63, 127, 255] [6, 1, 1, 1] rfl rfl ?_ | refine AWP.block ?_ | refine AWP.cond rfl ?_ | refine AWP.ret ?_ | refine AWP.skip ?_ | refine AWP.exit ?_ | refine AWP.label ?_ | refine AWP.goto ?_ | refine Br (fun h => ?_) (fun h => ?_))
        all_goals (try conv => whnf)
        have hw3 : IntKind.i64.wrap ((j : Int) + 1) = ((j + 1 : Nat) : Int) := i64_of (by omega) (by omega)
        have htk : t.ts.take (j + 1) = t.ts.take j ++ [t.ts[j]] := List.take_succ_eq_append_getElem hj2
        refine ⟨t.ts.length - (j + 1), by omega, j + 1, rfl, hj2, .inr ⟨⟨rfl, rfl, rfl, rfl, rfl, by show PV.s (.int .i64 (IntKind.i64.wrap ((j : Int) + 1))) = _; rw [hw3], trivial⟩, ⟨rfl, rfl, ?_, trivial⟩⟩⟩
        show some (Row.row 6 (appE ((turnL g (t.ts.take j)).map Tm.enc) [(turnT g t.ts[j]).cells])) = _
        rw [appE_eq, htk, turnL_map, turnL_map, List.map_append, List.map_append]
        simp only [List.map, Tm.enc_eq]
      · have hj2 : j = t.ts.length := by simp at h; omega
        subst hj2
        rw [hspec]
        refine finP ?_ rfl
        show PV.agg [iv t.k, sv t.n, iv 0, uv 0, uv 0, .slc 6 ((turnL g (t.ts.take t.ts.length)).map Tm.enc) false] = _
        rw [List.take_length]
        rfl
  · rename_i h1 h2 h3 h4
    simp at h h1 h2 h3 h4
    rw [turnT_eq, if_neg h1, if_neg h2, if_neg h3, if_neg h4, if_neg h]
    exact finP rfl rfl
termination_by t
decreasing_by all_goals exact Tm.size_lt hmem

end Go.Vai

/- A range over a function: the rule. No condition. -/
namespace Go.Vai
open Go.RowKit

/-- What is read in one world as data is so in another that keeps those cells. -/
def KeepC (ok : Nat → Nat → Prop) (w w' : World) : Prop := ∀ b o v, ok b o → w.cell? ⟨b, o, none⟩ = some v → w'.cell? ⟨b, o, none⟩ = some v

/-- An iterator: it hands n rounds' values to its loop's body, in line. -/
def Iter (P : Program) (gf : Nat) (caps : List PV) (n m : Nat) (pvs : Nat → List PV) : Prop :=
  ∀ (w : World) (ok : Nat → Nat → Prop) (us : List Value), us.length = caps.length → (∀ (i : Nat) c u, caps[i]? = some c → us[i]? = some u → RepD w ok c u) → (∀ b o, ok b o → b < w.heap.size) →
    ∃ encs : Nat → Array Value, (∀ q, (encs q).size = m) ∧ (0 < n → ∀ q, ∀ (j : Nat) p v, (pvs q)[j]? = some p → (encs q)[j]? = some v → RepV w ⟨fun _ => none, ok⟩ p v) ∧
      SeqStopsK Fence.wide 1 P gf us.toArray encs (KeepC ok) (fun xs => xs = List.range n) (fun pre => ∃ k, k ≤ n ∧ pre = List.range k) n w

/-- In a round: the frame as it was, what is handed over in its places; the frame as it was kept behind it. -/
def putAll (f : Nat → PV) : List Nat → List PV → Nat → PV
  | t :: ts, p :: ps => putAll (upd f t p) ts ps
  | _, _ => f
def rnd (N : Nat) (ts : List Nat) (ps : List PV) (st : St) : St := ⟨fun s => match Nat.ble N s with | true => st.fr (s - N) | false => putAll st.fr ts ps s, st.H⟩
def unr (N : Nat) (st : St) : St := ⟨fun s => st.fr (N + s), st.H⟩
def Ctx.inR (Γ : Ctx) : Ctx := ⟨Γ.P, Γ.T, Γ.N, Γ.hf, Γ.mt, Γ.mv, false⟩
theorem Ctx.Ok.inR {Γ : Ctx} (h : Γ.Ok) : Γ.inR.Ok := ⟨h.ty⟩
def isD' : PV → Bool
  | .s _ => true | .slc _ _ _ => true | .ept _ => true | _ => false

section
variable {Γ : Ctx} {E : Env} {β : Nat → Option RA} {st : St} {a : Act} {w : World}

theorem RepS.isCells (h : RepS Γ E β st a w) {b : Nat} {o : Obj} (hb : onB β b) (ho : w.heap[b]? = some o) : o.isCells = true := by
  obtain ⟨k, c, s, l, hk⟩ := hb
  cases hH : st.H k with
  | none => rw [h.dom k hH] at hk; cases hk
  | some r =>
    obtain ⟨ra, h1, h2⟩ := h.hp k r hH
    rw [hk] at h1
    cases h1
    cases r with
    | cell cs =>
      obtain ⟨b', us, t, e1, e2, _⟩ := h2
      cases e1
      rw [e2] at ho
      cases ho
      rfl
    | row sz es =>
      rcases h2 with ⟨e1, _⟩ | ⟨b', cap, us, t, e1, e2, _⟩
      · cases e1
      · cases e1
        rw [e2] at ho
        cases ho
        rfl

/-- Another world that has the same cells of data, the same rows. -/
theorem RepS.other (h : RepS Γ E β st a w) {E' : Env} {a' : Act} {w' : World} (ha : a'.tmps = a.tmps) (h0 : E'.w0 = E.w0) (h1 : E'.ok0 = E.ok0) (h2 : E'.hk = E.hk) (h3 : E'.fx = E.fx) (h4 : E'.gv = E.gv)
    (hos : w'.os = w.os) (htape : w'.tape = w.tape) (hout : w'.output = w.output) (hs : w.heap.size ≤ w'.heap.size) (hcell : ∀ (b : Nat) o, w.heap[b]? = some o → o.isCells = true → w'.heap[b]? = some o)
    (hold : ∀ b, b < E.w0.heap.size → w'.heap[b]? = w.heap[b]?) (hoth : Oth E' β a' w') : RepS Γ E' β st a' w' := by
  have hcx : ∀ w, E'.cx β w = E.cx β w := fun w => by unfold Env.cx; rw [h0, h1]
  have hhb : E'.hb = E.hb := by funext b; unfold Env.hb; rw [h2]
  have hm : Move w w' (E.cx β w) (E'.cx β w') := by
    rw [hcx]
    refine ⟨fun b o v k1 k2 => ⟨?_, ?_⟩⟩
    · rcases k1 with k1 | ⟨k3, k4, k5⟩
      · exact .inl k1
      · exact .inr ⟨k3, by omega, k5⟩
    · unfold World.cell? at k2
      split at k2
      · rename_i c e f hb
        rw [World.cell?, hcell b _ hb rfl]
        exact k2
      · cases k2
  refine { size := by rw [ha]; exact h.size, oth := hoth, frv := fun s v hv => RepV.mono hm (fun _ _ => rfl) (h.frv s v (by unfold Env.val at hv ⊢; rw [ha, h4] at hv; exact hv)), hp := fun j x hj => ?_, dom := h.dom, inj := h.inj, own := fun j b c s l hj => ?_, keeps := ?_, okb := ?_, hbb := ?_, fix := ?_, fxm := ?_ }
  · obtain ⟨rb, k1, k2⟩ := h.hp j x hj
    refine ⟨rb, k1, RepRow.mono hm (fun _ _ => rfl) (fun b c s l e => ?_) k2⟩
    subst e
    have hlt := (h.own j b c s l k1).2
    rw [Array.getElem?_eq_getElem hlt]
    exact hcell b _ (Array.getElem?_eq_getElem hlt) (h.isCells ⟨j, c, s, l, k1⟩ (Array.getElem?_eq_getElem hlt))
  · rw [h0, h2]
    exact ⟨(h.own j b c s l hj).1, Nat.lt_of_lt_of_le (h.own j b c s l hj).2 hs⟩
  · rw [h0, hhb]
    exact ⟨hos.trans h.keeps.os, htape.trans h.keeps.tape, hout.trans h.keeps.output, Nat.le_trans h.keeps.size hs, fun b hb hn => (hold b hb).trans (h.keeps.block b hb hn)⟩
  · rw [h0, h1, hhb]; exact h.okb
  · rw [h0, hhb]; exact h.hbb
  · rw [h3]; exact h.fix
  · rw [h3]; exact h.fxm

theorem putAll_ne : ∀ {ts : List Nat} {ps : List PV} {f : Nat → PV} {s : Nat}, s ∉ ts → putAll f ts ps s = f s
  | [], _, _, _, _ => by simp [putAll]
  | _ :: _, [], _, _, _ => by simp [putAll]
  | t :: ts, p :: ps, f, s, h => by
    rw [putAll, putAll_ne (fun hm => h (List.mem_cons_of_mem _ hm)), upd_at, if_neg (fun (e : s = t) => h (by rw [e]; exact List.mem_cons_self))]

def putVs (tm : Array Value) : List Nat → List Value → Array Value
  | t :: ts, v :: vs => putVs (tm.setIfInBounds t v) ts vs
  | _, _ => tm
theorem putVs_size : ∀ {ts : List Nat} {vs : List Value} {tm : Array Value}, (putVs tm ts vs).size = tm.size
  | [], _, _ => by simp [putVs]
  | _ :: _, [], _ => by simp [putVs]
  | t :: ts, v :: vs, tm => by rw [putVs, putVs_size]; simp
theorem putVs_eq (tm : Array Value) : ∀ (ts : List Nat) (vs : List Value), (ts.zip vs).foldl (fun tm (t, v) => tm.setIfInBounds t v) tm = putVs tm ts vs := by
  intro ts vs
  induction ts generalizing tm vs with
  | nil => simp [putVs]
  | cons t ts ih =>
    cases vs with
    | nil => simp [putVs]
    | cons v vs => simp only [List.zip_cons_cons, List.foldl_cons, putVs]; exact ih _ vs

theorem put_frames {R : PV → Value → Prop} {N : Nat} : ∀ {ts : List Nat} {ps : List PV} {vs : List Value} {f : Nat → PV} {tm : Array Value}, tm.size = N → ps.length = ts.length → vs.length = ts.length →
    (∀ (s : Nat) v, tm[s]? = some v → R (f s) v) → (∀ (j : Nat) p v, ps[j]? = some p → vs[j]? = some v → R p v) → ∀ (s : Nat) v, (putVs tm ts vs)[s]? = some v → R (putAll f ts ps s) v
  | [], _, _, _, _, _, _, _, h, _, s, v, hv => by simp [putVs] at hv; simp [putAll]; exact h s v hv
  | t :: ts, [], _, _, _, _, hl, _, _, _, _, _, _ => by simp at hl
  | t :: ts, p :: ps, [], _, _, _, _, hl, _, _, _, _, _ => by simp at hl
  | t :: ts, p :: ps, v0 :: vs, f, tm, hN, h1, h2, h, hp, s, v, hv => by
    rw [putVs] at hv
    rw [putAll]
    refine put_frames (tm := tm.setIfInBounds t v0) (by simpa using hN) (by simpa using h1) (by simpa using h2) (fun s v hv => ?_) (fun j p v h3 h4 => hp (j + 1) p v (by simpa using h3) (by simpa using h4)) s v hv
    rw [upd_at]
    rw [Array.getElem?_setIfInBounds] at hv
    by_cases e : t = s
    · subst e
      rw [if_pos rfl] at hv ⊢
      split at hv
      · cases hv; exact hp 0 p _ rfl rfl
      · cases hv
    · rw [if_neg e] at hv
      rw [if_neg (fun e' => e e'.symm)]
      exact h s v hv

end

theorem RepS.toR {Γ : Ctx} {E : Env} {β : Nat → Option RA} {st : St} {a : Act} {w : World} (h : RepS Γ E β st a w) : RepS Γ.inR E β st a w :=
  { size := h.size, oth := h.oth, frv := h.frv, hp := h.hp, dom := h.dom, inj := h.inj, own := h.own, keeps := h.keeps, okb := h.okb, hbb := h.hbb, fix := h.fix, fxm := h.fxm }
theorem RepS.ofR {Γ : Ctx} {E : Env} {β : Nat → Option RA} {st : St} {a : Act} {w : World} (h : RepS Γ.inR E β st a w) : RepS Γ E β st a w :=
  { size := h.size, oth := h.oth, frv := h.frv, hp := h.hp, dom := h.dom, inj := h.inj, own := h.own, keeps := h.keeps, okb := h.okb, hbb := h.hbb, fix := h.fix, fxm := h.fxm }
theorem no_has0 {w : World} {ok : Nat → Nat → Prop} {p : PV} {v : Value} (h : RepX w ⟨fun _ => none, ok⟩ p v) (k : Nat) : has0 k p = false := by
  cases p with
  | xs j o => cases o <;> (obtain ⟨ra, h1, _⟩ := h; cases h1)
  | ptr j i off => obtain ⟨ra, h1, _⟩ := h; cases h1
  | _ => rfl
theorem no_has1 {w : World} {ok : Nat → Nat → Prop} {p : PV} {v : Value} (h : RepC w ⟨fun _ => none, ok⟩ p v) (k : Nat) : has1 k p = false := by
  cases p with
  | clo f cs =>
    obtain ⟨us, _, h2, h3⟩ := h
    show cs.any (has0 k) = false
    rw [List.any_eq_false]
    intro c hc
    obtain ⟨i, hi, rfl⟩ := List.mem_iff_getElem.1 hc
    rw [no_has0 (h3 i _ us[i] (List.getElem?_eq_getElem hi) (List.getElem?_eq_getElem (by omega))).1 k]
    simp
  | xs j o => exact no_has0 (p := .xs j o) h k
  | ptr j i off => exact no_has0 (w := w) (p := .ptr j i off) h k
  | _ => rfl
theorem no_has2 {w : World} {ok : Nat → Nat → Prop} {p : PV} {v : Value} (h : Rep2 w ⟨fun _ => none, ok⟩ p v) (k : Nat) : has2 k p = false := by
  cases p with
  | agg cs =>
    obtain ⟨us, _, h2, h3⟩ := h
    show cs.any (has1 k) = false
    rw [List.any_eq_false]
    intro c hc
    obtain ⟨i, hi, rfl⟩ := List.mem_iff_getElem.1 hc
    rw [no_has1 (h3 i _ us[i] (List.getElem?_eq_getElem hi) (List.getElem?_eq_getElem (by omega))).1 k]
    simp
  | clo f cs => exact no_has1 (p := .clo f cs) h k
  | xs j o => exact no_has1 (p := .xs j o) h k
  | ptr j i off => exact no_has1 (w := w) (p := .ptr j i off) h k
  | _ => rfl
theorem no_has {w : World} {ok : Nat → Nat → Prop} {p : PV} {v : Value} (h : RepV w ⟨fun _ => none, ok⟩ p v) (k : Nat) : has k p = false := by
  cases p with
  | tup vs =>
    obtain ⟨us, _, h2, h3⟩ := h
    show vs.any (has2 k) = false
    rw [List.any_eq_false]
    intro c hc
    obtain ⟨i, hi, rfl⟩ := List.mem_iff_getElem.1 hc
    rw [no_has2 (h3 i _ us[i] (List.getElem?_eq_getElem hi) (List.getElem?_eq_getElem (by omega))) k]
    simp
  | agg cs => exact no_has2 (p := .agg cs) h k
  | clo f cs => exact no_has2 (p := .clo f cs) h k
  | xs j o => exact no_has2 (p := .xs j o) h k
  | ptr j i off => exact no_has2 (w := w) (p := .ptr j i off) h k
  | _ => rfl

theorem pinned_grownBy {E : Env} {β : Nat → Option RA} {a : Act} {w w' : World} {row : Option Nat} (h : Oth E β a w) (hd : a.defers = []) (hg : w.grownBy w' row) (hr : ∀ r o, row = some r → ¬ E.pin r o) : Oth E β a w' := by
  refine ⟨fun b o hp => ?_, Nat.le_trans h.lo hg.size, (fun d hd' => by rw [hd] at hd'; cases hd'), h.nodup⟩
  obtain ⟨h1, h2⟩ := h.pin b o hp
  exact ⟨(hg.block b (Array.getElem?_eq_some_iff.1 h1).1 (fun e => hr b o e.symm hp)).trans h1, h2⟩

theorem AWP.rangeFunc {Γ : Ctx} (htop : Γ.top = true) {st : St} {Qa : Out → Prop} {g : Operand} {ps : Array Nat} {assign body : Code} {gf : Nat} {caps : List PV} (hgo : okOpd Γ.N g = true) (hpsN : ps.toList.all (fun t => Nat.blt t Γ.N) = true)
    (hg : st.ev g = .clo gf caps) (hcaps : caps.all isD' = true) (hent : Enters Γ.P gf) (n : Nat) (pvs : Nat → List PV) (hpv : ∀ q, (pvs q).length = ps.size) (hit : Iter Γ.P gf caps n ps.size pvs)
    (I : List Nat → St → Prop) (h0 : I [] st)
    (round : ∀ pre x st, pre.length < n → I pre st → AWP Γ.inR assign (rnd Γ.N ps.toList (pvs x) st) (endQ fun st1 => AWP Γ.inR body st1 (endQ fun st2 => I (pre ++ [x]) (unr Γ.N st2))))
    (done : ∀ st, I (List.range n) st → Qa (.normal st)) : AWP Γ (.rangeFunc g ps assign body) st Qa := by
  refine ⟨fun rd hrd E a w Q hr hk => ?_⟩
  have := hrd htop
  subst this
  obtain ⟨β, hr⟩ := hr
  have hv := hr.ev hgo
  rw [hg] at hv
  obtain ⟨us, hv1, hv2, hv3⟩ := hv
  have hdat : ∀ (i : Nat) c u, caps[i]? = some c → us[i]? = some u → RepD w (E.cx β w).ok c u := fun i c u hc hu => by
    have h1 := (hv3 i c u hc hu).1
    have h2 := List.all_eq_true.1 hcaps c (List.mem_of_getElem? hc)
    cases c <;> first | exact h1 | cases h2
  obtain ⟨encs, he1, he2, hseq⟩ := hit w (E.cx β w).ok us hv2 hdat (fun b o hb => cx_ok_lt hr hb)
  refine (wpIn_wide (n := 0)).2 ((wpIn_wide (n := 2)).1 (wpIn_rangeFunc (F := Fence.wide) fun fn _ => ?_))
  obtain ⟨rec, hrec⟩ : ∃ rec : LoopState → Option Code → Loop, rec = fun st pe => { state := st, pending := pe, fn, tmps := a.tmps, params := ps, assign, body, defers := w.heap.size } := ⟨_, rfl⟩
  obtain ⟨W1, hW1⟩ : ∃ W1, (w.alloc (.deferred (some []))).alloc (.loop (rec .ready none)) = W1 := ⟨_, rfl⟩
  have hsz1 : W1.heap.size = w.heap.size + 2 := by rw [← hW1]; simp
  have hL1 : W1.heap[w.heap.size + 1]? = some (.loop (rec .ready none)) := by
    rw [← hW1]; have := World.alloc_heap_new (w.alloc (.deferred (some []))) (.loop (rec .ready none)); rwa [World.size_alloc] at this
  have hK1 : W1.heap[w.heap.size]? = some (.deferred (some [])) := by
    rw [← hW1]; exact (Below.heap_alloc _ _ _ (by simp)).trans (World.alloc_heap_new w _)
  have hold1 : ∀ b, b < w.heap.size → W1.heap[b]? = w.heap[b]? := fun b hb => by
    rw [← hW1]; exact (Below.heap_alloc _ _ _ (by simp; omega)).trans (Below.heap_alloc _ _ _ hb)
  have hb1 : Below w.heap.size w W1 := by
    rw [← hW1]; exact (((Below.refl _ w).alloc (Nat.le_refl _) _).alloc (by simp) _)
  have hnb : ∀ b, onB β b → b < w.heap.size := fun b ⟨k, c, s, l, hk⟩ => (hr.own k b c s l hk).2
  obtain ⟨l, hl⟩ : ∃ l, l = w.heap.size + 1 := ⟨_, rfl⟩
  -- what is pinned: all that lies off the handles; the record by its state
  obtain ⟨ER, hER⟩ : ∃ ER : LoopState → Env, ER = fun s => { E with pin := fun b o => ¬ onB β b ∧ (if b = l then o = .loop (rec s none) else W1.heap[b]? = some o), gv := a.tmps ++ E.gv } := ⟨_, rfl⟩
  have hERv : ∀ s, (ER s).w0 = E.w0 ∧ (ER s).ok0 = E.ok0 ∧ (ER s).hk = E.hk ∧ (ER s).fx = E.fx ∧ (ER s).gv = a.tmps ++ E.gv ∧ (ER s).lo = E.lo := fun s => by rw [hER]; exact ⟨rfl, rfl, rfl, rfl, rfl, rfl⟩
  have hpinR : ∀ s b o, (ER s).pin b o ↔ ¬ onB β b ∧ (if b = l then o = .loop (rec s none) else W1.heap[b]? = some o) := fun s b o => by rw [hER]
  have hcxE : ∀ s β' W, (ER s).cx β' W = E.cx β' W := fun s β' W => by unfold Env.cx; rw [(hERv s).1, (hERv s).2.1]
  -- between two rounds
  obtain ⟨Bd, hBd⟩ : ∃ Bd : LoopState → St → World → Prop, Bd = fun s st W => ∃ β', RepS Γ { ER s with gv := E.gv } β' st { tmps := a.tmps, defers := [] } W := ⟨_, rfl⟩
  -- data is as it was
  have hkeep : ∀ s β' (a' : Act) W, Oth (ER s) β' a' W → Move w W (E.cx β w) (E.cx β' W) := fun s β' a' W ho => by
    refine ⟨fun b o v k1 k2 => ?_⟩
    have hlt := cx_ok_lt hr k1
    have hn := cx_ok_not hr k1
    obtain ⟨ob, hob⟩ : ∃ ob, w.heap[b]? = some ob := ⟨_, Array.getElem?_eq_getElem hlt⟩
    obtain ⟨h1, h2⟩ := ho.pin b ob ((hpinR s b ob).2 ⟨hn, by rw [if_neg (by omega)]; exact (hold1 b hlt).trans hob⟩)
    refine ⟨?_, ?_⟩
    · rcases k1 with k1 | ⟨k3, k4, k5⟩
      · exact .inl k1
      · exact .inr ⟨k3, (Array.getElem?_eq_some_iff.1 h1).1, h2⟩
    · rw [cell_of_heap (h1.trans hob.symm)]; exact k2
  have hlnb : ¬ onB β l := fun h => by have := hnb l h; omega
  have hrecAt : ∀ s β' (a' : Act) W, Oth (ER s) β' a' W → W.heap[l]? = some (.loop (rec s none)) := fun s β' a' W ho => (ho.pin l _ ((hpinR s l _).2 ⟨hlnb, by rw [if_pos rfl]⟩)).1
  -- the record turns: all else stays
  have turn : ∀ s s' β' (st' : St) (a' : Act) (W : World) (gv : Array Value), RepS Γ { ER s with gv := gv } β' st' a' W → RepS Γ { ER s' with gv := gv } β' st' a' (W.putObj l (.loop (rec s' none))) := fun s s' β' st' a' W gv h => by
    have ho : Oth (ER s) β' a' W := ⟨h.oth.pin, h.oth.lo, h.oth.marks, h.oth.nodup⟩
    have hl1 := hrecAt s β' a' W ho
    have hlt := (Array.getElem?_eq_some_iff.1 hl1).1
    refine h.other rfl (by rw [(hERv s).1, (hERv s').1] <;> rfl) (by show (ER s').ok0 = (ER s).ok0; rw [(hERv s).2.1, (hERv s').2.1]) (by show (ER s').hk = (ER s).hk; rw [(hERv s).2.2.1, (hERv s').2.2.1]) (by show (ER s').fx = (ER s).fx; rw [(hERv s).2.2.2.1, (hERv s').2.2.2.1]) rfl rfl rfl rfl (by simp) (fun b o hb hc => ?_) (fun b hb => ?_) ⟨fun b o hp => ?_, ?_, ?_, ?_⟩
    · refine (World.putObj_heap_other (fun e => ?_)).trans hb
      rw [e, hl1] at hb
      cases hb
      cases hc
    · refine World.putObj_heap_other (fun e => ?_)
      have h1 : E.w0.heap.size ≤ w.heap.size := hr.keeps.size
      have h2 : b < (ER s).w0.heap.size := hb
      rw [(hERv s).1] at h2
      omega
    · obtain ⟨h1, h2⟩ := (hpinR s' b o).1 hp
      by_cases e : b = l
      · subst e
        rw [if_pos rfl] at h2
        rw [h2]
        exact ⟨World.putObj_heap_same hlt, (ho.pin b _ ((hpinR s b _).2 ⟨h1, by rw [if_pos rfl]⟩)).2⟩
      · rw [if_neg e] at h2
        obtain ⟨h3, h4⟩ := ho.pin b o ((hpinR s b o).2 ⟨h1, by rw [if_neg e]; exact h2⟩)
        exact ⟨(World.putObj_heap_other e).trans h3, h4⟩
    · have := h.oth.lo
      have h3 : (ER s).lo ≤ W.heap.size := this
      rw [(hERv s).2.2.2.2.2] at h3
      show (ER s').lo ≤ _
      rw [(hERv s').2.2.2.2.2]
      simpa using h3
    · intro d hd'
      obtain ⟨D, k1, k2, k3, k4⟩ := h.oth.marks d hd'
      refine ⟨D, k1, ?_, (World.putObj_heap_other (fun e => ?_)).trans k3, k4⟩
      · have k2 : (ER s).w0.heap.size ≤ D := k2
        rw [(hERv s).1] at k2
        show (ER s').w0.heap.size ≤ D
        rw [(hERv s').1]
        exact k2
      · rw [e, hl1] at k3; cases k3
    · exact h.oth.nodup
  have hsame : ∀ s β' (a' : Act) W, Oth (ER s) β' a' W → ∀ b o, (E.cx β w).ok b o → W.heap[b]? = w.heap[b]? := fun s β' a' W ho b o k1 => by
    have hlt := cx_ok_lt hr k1
    have hn := cx_ok_not hr k1
    obtain ⟨ob, hob⟩ : ∃ ob, w.heap[b]? = some ob := ⟨_, Array.getElem?_eq_getElem hlt⟩
    exact ((ho.pin b ob ((hpinR s b ob).2 ⟨hn, by rw [if_neg (by omega)]; exact (hold1 b hlt).trans hob⟩)).1).trans hob.symm
  have start : Bd .ready st W1 := by
    rw [hBd]
    refine ⟨β, hr.other rfl (hERv _).1 (hERv _).2.1 (hERv _).2.2.1 (hERv _).2.2.2.1 rfl hb1.os hb1.tape hb1.output hb1.size (fun b o hb _ => (hold1 b (Array.getElem?_eq_some_iff.1 hb).1).trans hb) (fun b hb => hold1 b (Nat.lt_of_lt_of_le hb hr.keeps.size)) ⟨fun b o hp => ?_, ?_, fun d hd => (by cases hd), List.nodup_nil⟩⟩
    · obtain ⟨h1, h2⟩ := (hpinR _ b o).1 hp
      refine ⟨?_, h1⟩
      by_cases e : b = l
      · subst e
        rw [if_pos rfl] at h2
        rw [h2, hl]
        exact hL1
      · rw [if_neg e] at h2
        exact h2
    · show (ER _).lo ≤ _
      rw [(hERv _).2.2.2.2.2]
      exact Nat.le_trans hr.oth.lo hb1.size
  have unpin : ∀ s β' st' (a' : Act) W, RepS Γ (ER s) β' st' a' W → RepS Γ { ER s with gv := E.gv } β' (unr Γ.N st') { tmps := a.tmps, defers := [] } W := fun s β' st' a' W h => by
    refine { size := hr.size, oth := ⟨h.oth.pin, h.oth.lo, fun d hd => (by cases hd), List.nodup_nil⟩, frv := fun s2 v hv => ?_, hp := h.hp, dom := h.dom, inj := h.inj, own := h.own, keeps := h.keeps, okb := h.okb, hbb := h.hbb, fix := h.fix, fxm := h.fxm }
    refine h.frv (Γ.N + s2) v ?_
    unfold Env.val at hv ⊢
    rw [if_neg (by omega), (hERv s).2.2.2.2.1, Nat.add_sub_cancel_left]
    have hsz := hr.size
    split at hv
    · rename_i hlt
      rw [Array.getElem?_append_left (by omega)]
      exact hv
    · rename_i hge
      rw [Array.getElem?_append_right (by omega), hsz]
      exact hv
  have enter : ∀ s x β' st' W, 0 < n → RepS Γ { ER s with gv := E.gv } β' st' { tmps := a.tmps, defers := [] } W → RepS Γ (ER s) β' (rnd Γ.N ps.toList (pvs x) st') { tmps := putVs a.tmps ps.toList (encs x).toList, defers := [] } W := fun s x β' st' W hn h => by
    have hsz := hr.size
    have hmv := hkeep s β' { tmps := a.tmps, defers := [] } W ⟨h.oth.pin, h.oth.lo, h.oth.marks, h.oth.nodup⟩
    refine { size := by rw [putVs_size]; exact hr.size, oth := ⟨h.oth.pin, h.oth.lo, fun d hd => (by cases hd), List.nodup_nil⟩, frv := fun s2 v hv => ?_, hp := h.hp, dom := h.dom, inj := h.inj, own := h.own, keeps := h.keeps, okb := h.okb, hbb := h.hbb, fix := h.fix, fxm := h.fxm }
    unfold Env.val at hv
    show RepV W ((ER s).cx β' W) (match Nat.ble Γ.N s2 with | true => st'.fr (s2 - Γ.N) | false => putAll st'.fr ps.toList (pvs x) s2) v
    by_cases hlt : s2 < Γ.N
    · rw [if_pos hlt] at hv
      have hb : Nat.ble Γ.N s2 = false := by
        cases hb : Nat.ble Γ.N s2 with
        | false => rfl
        | true => have := Nat.le_of_ble_eq_true hb; omega
      rw [hb]
      refine put_frames (R := fun p v => RepV W ((ER s).cx β' W) p v) hr.size (by rw [hpv]; simp) (by simp [he1]) (fun s3 v hv3 => ?_) (fun j p v hp hv3 => ?_) s2 v hv
      · refine h.frv s3 v ?_
        unfold Env.val
        have := (Array.getElem?_eq_some_iff.1 hv3).1
        rw [if_pos (by omega)]
        exact hv3
      · have h1 := he2 hn x j p v hp (by simpa using hv3)
        rw [hcxE]
        refine RepV.mono (cx := ⟨fun _ => none, (E.cx β w).ok⟩) ⟨hmv.cell⟩ (fun k hk => ?_) h1
        exact absurd hk (by rw [no_has h1 k]; simp)
    · rw [if_neg hlt, (hERv s).2.2.2.2.1] at hv
      have hb : Nat.ble Γ.N s2 = true := Nat.ble_eq_true_of_le (by omega)
      rw [hb]
      refine h.frv (s2 - Γ.N) v ?_
      unfold Env.val
      by_cases h1 : s2 - Γ.N < Γ.N
      · rw [if_pos h1]
        rw [Array.getElem?_append_left (by omega)] at hv
        exact hv
      · rw [if_neg h1]
        rw [Array.getElem?_append_right (by omega), hsz] at hv
        exact hv
  refine ⟨l, [markOf w.heap.size], W1, { target := .fn (.func gf) us.toArray, args := #[.func (.yield l) #[] #[]] }, W1, gf, #[.func (.yield l) #[] #[]] ++ us.toArray, W1, ?_, ?_, fun f' hf' => trivial, ?_, (fun h => nomatch h), ?_⟩
  · rw [hl, ← hW1, hrec]; exact run_enterLoop_outer _ _ _ _ _
  · simp only [resolve, hv1]
    simp [go_sem]
  · simp [invoke, go_sem, hent.run]
  · refine (hseq l (fun pre W => ∃ st', I pre st' ∧ Bd .ready st' W) (fun _ _ => False) W1 hb1 (fun pre W W' row ⟨st', h1, h2⟩ hg' hrow => ⟨st', h1, ?_⟩) (fun _ _ _ _ h _ _ => h) (fun pre x W ⟨st', hI, hb⟩ hlen => ?_) ⟨st, h0, start⟩).mono ?_
    · rw [hBd] at h2 ⊢
      obtain ⟨β', h2⟩ := h2
      have hnp : ∀ r o, row = some r → ¬ (ER .ready).pin r o := fun r o e hp => by
        obtain ⟨h3, _⟩ := hrow r e
        obtain ⟨h4, h5⟩ := (hpinR _ r o).1 hp
        rw [if_neg (by omega)] at h5
        have := (Array.getElem?_eq_some_iff.1 h5).1
        omega
      refine ⟨β', h2.other rfl rfl rfl rfl rfl rfl hg'.os hg'.tape hg'.output hg'.size (fun b o hb hc => ?_) (fun b hb => ?_) (pinned_grownBy h2.oth rfl hg' hnp)⟩
      · refine (hg'.block b (Array.getElem?_eq_some_iff.1 hb).1 (fun e => ?_)).trans hb
        obtain ⟨_, o', ho', hw'⟩ := hrow b e.symm
        rw [hb] at ho'
        cases ho'
        have := Obj.not_cells_of_walk hw'
        rw [hc] at this
        cases this
      · refine hg'.block b ?_ (fun e => ?_)
        · have h3 := h2.keeps.size
          have h4 : b < ({ ER .ready with gv := E.gv } : Env).w0.heap.size := hb
          omega
        · obtain ⟨h3, _⟩ := hrow b e.symm
          have h4 : b < (ER .ready).w0.heap.size := hb
          rw [(hERv _).1] at h4
          have := hr.keeps.size
          omega
    · rw [hBd] at hb
      obtain ⟨β', hb⟩ := hb
      have ho : Oth (ER .ready) β' { tmps := a.tmps, defers := [] } W := ⟨hb.oth.pin, hb.oth.lo, hb.oth.marks, hb.oth.nodup⟩
      have hlW := hrecAt _ _ _ _ ho
      have hy := run_yield (P := Γ.P) (args := encs x) hlW (by rw [hrec]; exact he1 x)
      rw [hrec] at hy
      refine ⟨fn, _, assign, body, hy, roundIn_of_wpIn trivial ?_⟩
      dsimp only
      have hfold : (ps.zip (encs x)).foldl (fun tmps (t, a) => tmps.setIfInBounds t a) a.tmps = putVs a.tmps ps.toList (encs x).toList := by
        rw [← putVs_eq, ← Array.foldl_toList]
        simp
      rw [hfold]
      refine (round pre x st' hlen hI).wp (some l) (fun e => by cases e) (ER .ready) _ W _ ⟨β', (enter _ x β' st' W (by omega) hb).toR⟩ ?_
      intro out a1 w1 hr1 hq1
      cases out with
      | normal st1 =>
        obtain ⟨β1, hr1⟩ := hr1
        have hr1 : RepS Γ (ER .ready) β1 st1 a1 w1 := hr1.ofR
        have hl1 := hrecAt _ _ _ _ hr1.oth
        refine ⟨_, run_beginRound hl1 (by rw [hrec]), ?_⟩
        have hbusy : ({ rec .ready none with state := .busy } : Loop) = rec .busy none := by rw [hrec]
        rw [hbusy]
        have e1 : ({ ER .ready with gv := a.tmps ++ E.gv } : Env) = ER .ready := by rw [← (hERv .ready).2.2.2.2.1]
        have hr2 := turn .ready .busy β1 st1 a1 w1 (a.tmps ++ E.gv) (e1.symm ▸ hr1)
        have e2 : ({ ER .busy with gv := a.tmps ++ E.gv } : Env) = ER .busy := by rw [← (hERv .busy).2.2.2.2.1]
        rw [e2] at hr2
        refine AWP.wp hq1 (some l) (fun e => by cases e) (ER .busy) a1 _ _ ⟨β1, hr2.toR⟩ ?_
        intro out a2 w2 hr3 hq2
        cases out with
        | normal st2 =>
          obtain ⟨β2, hr3⟩ := hr3
          have hr3 : RepS Γ (ER .busy) β2 st2 a2 w2 := hr3.ofR
          have hl2 := hrecAt _ _ _ _ hr3.oth
          refine ⟨_, _, run_endRound none hl2, .inl ⟨rfl, ⟨unr Γ.N st2, hq2, ?_⟩, ?_⟩⟩
          · have hready : ({ rec .busy none with state := if (none : Option Code).isNone then .ready else .done, pending := none } : Loop) = rec .ready none := by rw [hrec]; rfl
            rw [hready, hBd]
            exact ⟨β2, turn .busy .ready β2 _ _ _ _ (unpin _ _ _ _ _ hr3)⟩
          · intro b o v k1 k2
            have h3 := hsame _ _ _ _ ho b o k1
            have h4 := hsame _ _ _ _ hr3.oth b o k1
            have hbl : b ≠ l := fun e => by have := cx_ok_lt hr k1; omega
            have h5 : (w2.putObj l (.loop { rec .busy none with state := if (none : Option Code).isNone then .ready else .done, pending := none })).heap[b]? = W.heap[b]? := (World.putObj_heap_other hbl).trans (h4.trans h3.symm)
            rw [cell_of_heap h5]
            exact k2
        | exit i st2 => exact hq2.elim
        | ret st2 => exact hq2.elim
        | goto t st2 => exact hq2.elim
      | exit i st1 => exact hq1.elim
      | ret st1 => exact hq1.elim
      | goto t st1 => exact hq1.elim
    · rintro e W2 ⟨⟨v, rfl⟩, ⟨xs, rfl, st', hI, hb⟩ | ⟨_, _, hf⟩⟩
      · rw [hBd] at hb
        obtain ⟨β', hb⟩ := hb
        have ho : Oth (ER .ready) β' { tmps := a.tmps, defers := [] } W2 := ⟨hb.oth.pin, hb.oth.lo, hb.oth.marks, hb.oth.nodup⟩
        have hlW := hrecAt _ _ _ _ ho
        refine ⟨none, _, by have := run_endLoop (P := Γ.P) hlW (by rw [hrec]; simp); rw [hrec] at this; exact this, ?_⟩
        have hr4 := turn .ready .exhausted β' st' _ W2 _ hb
        rw [hrec] at hr4
        refine hk (.normal st') _ _ ⟨β', hr4.other rfl (hERv _).1.symm (hERv _).2.1.symm (hERv _).2.2.1.symm (hERv _).2.2.2.1.symm rfl rfl rfl rfl (Nat.le_refl _) (fun b o hb _ => hb) (fun b _ => rfl) ⟨fun b o hp => ?_, ?_, fun d hd => ?_, ?_⟩⟩ (done st' hI)
        · obtain ⟨h1, h2⟩ := hr.oth.pin b o hp
          have hlt := (Array.getElem?_eq_some_iff.1 h1).1
          exact hr4.oth.pin b o ((hpinR _ b o).2 ⟨h2, by rw [if_neg (by omega)]; exact (hold1 b hlt).trans h1⟩)
        · have := hr4.oth.lo
          have h3 : (ER .exhausted).lo ≤ _ := this
          rw [(hERv _).2.2.2.2.2] at h3
          exact h3
        · rcases List.mem_cons.1 hd with rfl | hd
          · obtain ⟨h1, h2⟩ := hr4.oth.pin w.heap.size _ ((hpinR _ _ _).2 ⟨fun h => by have := hnb _ h; omega, by rw [if_neg (by omega)]; exact hK1⟩)
            exact ⟨_, rfl, hr.keeps.size, h1, h2⟩
          · obtain ⟨D, k1, k2, k3, k4⟩ := hr.oth.marks d hd
            have hlt := (Array.getElem?_eq_some_iff.1 k3).1
            obtain ⟨h1, h2⟩ := hr4.oth.pin D _ ((hpinR _ _ _).2 ⟨k4, by rw [if_neg (by omega)]; exact (hold1 D hlt).trans k3⟩)
            exact ⟨D, k1, k2, h1, h2⟩
        · refine List.nodup_cons.2 ⟨fun hm => ?_, hr.oth.nodup⟩
          obtain ⟨D, k1, k2, k3, k4⟩ := hr.oth.marks _ hm
          have hlt := (Array.getElem?_eq_some_iff.1 k3).1
          injection k1 with k1 _
          injection k1 with k1
          omega
      · exact hf.elim

end Go.Vai

/- slices.Backward's iterator over terms. No condition. -/
namespace Go.Vai
open Go.Proofs Go.RowKit Go.Shelf

attribute [local go_sem] Oper.semAt_some

set_option maxRecDepth 100000 in
set_option maxHeartbeats 2000000 in
theorem back_in (l : Nat) (W : World) (J Jx : List Nat → World → Prop) (ok : Nat → Nat → Prop) (bs os : Nat) (A : Option Addr) (n cap : Nat) (us : Nat → Nat → Value) (hn : n ≤ 1000000) (hnc : n ≤ cap)
    (hs : ok bs os) (hsv : W.cell? ⟨bs, os, none⟩ = some (.slice A n cap))
    (hc : n ≠ 0 → ∃ b o, A = some ⟨b, o, none⟩ ∧ ∀ i j, i < n → j < 6 → ok b (o + (i * 6 + j)) ∧ W.cell? ⟨b, o + (i * 6 + j), none⟩ = some (us i j)) (h0 : J [] W)
    (hY : ∀ pre x W1, J pre W1 → pre.length < n → YieldAt Fence.wide 0 Try.prog l #[.int .i64 ((n - 1 - x : Nat) : Int), .agg #[us (n - 1 - x) 0, us (n - 1 - x) 1, us (n - 1 - x) 2, us (n - 1 - x) 3, us (n - 1 - x) 4, us (n - 1 - x) 5]] W1 fun e W' =>
      (e = .returned (.bool true) ∧ J (pre ++ [x]) W' ∧ KeepC ok W1 W') ∨ (e = .returned (.bool false) ∧ Jx (pre ++ [x]) W')) :
    CallsIn Fence.wide 1 Try.prog 132 #[.func (.yield l) #[] #[], .pointer (some ⟨bs, os, none⟩)] W fun e W' => (∃ v, e = .returned v) ∧
      ((∃ xs, xs = List.range n ∧ J xs W') ∨ (∃ pre, (∃ k, k ≤ n ∧ pre = List.range k) ∧ Jx pre W')) := by
  refine callsIn_of_wp Try.func132 rfl trivial ?_ rfl
  simp only [Try.ntmps132, List.size_toArray, List.length_cons, List.length_nil, Nat.reduceAdd, Nat.reduceSub, Array.replicate_succ, Array.replicate_zero, List.push_toArray, List.append_toArray, List.nil_append, List.cons_append]
  gi_wp2
  gi_loopw [3] (fun i wr => ∃ k : Nat, k ≤ n ∧ i = .int .i64 ((n : Int) - 1 - k) ∧ J (List.range k) wr ∧ KeepC ok W wr)
    (fun i _ => (intOf i + 1).toNat)
  case atStart =>
    refine ⟨0, Nat.zero_le _, ?_, h0, fun _ _ _ _ h => h⟩
    first | (congr 1; simp; omega) | simp
  case round =>
    obtain ⟨k, hk, rfl, hJs, hnx⟩ := hrel
    by_cases hlt : k < n
    · obtain ⟨m, hm⟩ : ∃ m, m = n - 1 - k := ⟨_, rfl⟩
      have hi : (n : Int) - 1 - k = (m : Int) := by omega
      have hmn : m < n := by omega
      obtain ⟨fn, tmps, assign, body, hy, hR⟩ := hY _ k wr hJs (by simpa using hlt)
      rw [← hm] at hy
      rw [hi]
      have hsv' := hnx _ _ _ hs hsv
      obtain ⟨b, o, rfl, hcs⟩ := hc (by omega)
      have hcx : ∀ j, j < 6 → wr.cell? ⟨b, o + (m * 6 + j), none⟩ = some (us m j) := fun j hj => hnx _ _ _ (hcs _ _ (by omega) hj).1 (hcs _ _ (by omega) hj).2
      have c0 : wr.cell? ⟨b, o + m * 6, none⟩ = some (us m 0) := hcx 0 (by omega)
      have c1 : wr.cell? ⟨b, o + m * 6 + 1, none⟩ = some (us m 1) := hcx 1 (by omega)
      have c2 : wr.cell? ⟨b, o + m * 6 + 2, none⟩ = some (us m 2) := hcx 2 (by omega)
      have c3 : wr.cell? ⟨b, o + m * 6 + 3, none⟩ = some (us m 3) := hcx 3 (by omega)
      have c4 : wr.cell? ⟨b, o + m * 6 + 4, none⟩ = some (us m 4) := hcx 4 (by omega)
      have c5 : wr.cell? ⟨b, o + m * 6 + 5, none⟩ = some (us m 5) := hcx 5 (by omega)
      have hm1 : m + k + 1 ≤ n := by omega
      have hm2 : n ≤ m + k + 1 := by omega
      clear hcx hcs hc hm hi
      have hu := Try.underlying25
      gi_wp2
      refine hR.mono ?_
      rintro e W3 (⟨rfl, hJ3, hk3⟩ | ⟨rfl, hJx3⟩)
      · gi_wp2
        go_roundw
        case rel =>
          refine ⟨k + 1, by omega, ?_, by rw [List.range_succ]; exact hJ3, fun b o v h1 h2 => hk3 b o v h1 (hnx b o v h1 h2)⟩
          congr 1
          omega
        case measure => simp [intOf]
      · gi_wp2
        refine bodyPost_ret (results_none rfl _ _ _) rfl ?_
        exact ⟨⟨_, rfl⟩, .inr ⟨_, ⟨k + 1, by omega, rfl⟩, by rw [List.range_succ]; exact hJx3⟩⟩
    · obtain rfl : k = n := by omega
      gi_wp2
      go_end0
      exact ⟨⟨_, rfl⟩, .inl ⟨_, rfl, hJs⟩⟩

theorem back_iter (es : List (List PV)) (full : Bool) (hlen : es.length ≤ 1000000) (h6 : ∀ e ∈ es, e.length = 6) :
    Iter Try.prog 132 [.ept [.slc 6 es full]] es.length 2 (fun q => [iv ((es.length - 1 - q : Nat) : Int), .agg (es.getD (es.length - 1 - q) [])]) := by
  intro w ok us hus hr hok
  match us, hus with
  | [u], _ =>
  have h1 := hr 0 _ u rfl rfl
  cases h1 with
  | ept _ b o uf ha hr1 =>
  have h2 := hr1 0 _ rfl
  have h3 := ha 0 (by simp)
  cases h4 : uf 0 with
  | slice A n c =>
    rw [h4] at h2 h3
    cases h2 with
    | slc _ _ _ _ _ us hc hf he hb hd =>
    refine ⟨fun q => #[.int .i64 ((es.length - 1 - q : Nat) : Int), .agg #[us (es.length - 1 - q) 0, us (es.length - 1 - q) 1, us (es.length - 1 - q) 2, us (es.length - 1 - q) 3, us (es.length - 1 - q) 4, us (es.length - 1 - q) 5]], fun q => rfl, fun hn q j p v hp hv => ?_, ?_⟩
    · match j with
      | 0 => cases hp; cases hv; exact RepD.s _ rfl
      | 1 =>
        cases hp; cases hv
        have hi : es.length - 1 - q < es.length := by omega
        have hg : es.getD (es.length - 1 - q) [] = es[es.length - 1 - q] := by simp [hi]
        rw [hg]
        refine ⟨_, rfl, by rw [h6 _ (List.getElem_mem hi)]; rfl, fun j c u hcj hu => ?_⟩
        have hj : j < 6 := by have := (List.getElem?_eq_some_iff.1 hcj).1; rw [h6 _ (List.getElem_mem hi)] at this; exact this
        have h5 := hd (es.length - 1 - q) j _ c (List.getElem?_eq_getElem hi) hcj
        have hu2 : u = us (es.length - 1 - q) j := by
          match j, hj with
          | 0, _ => simpa using hu.symm
          | 1, _ => simpa using hu.symm
          | 2, _ => simpa using hu.symm
          | 3, _ => simpa using hu.symm
          | 4, _ => simpa using hu.symm
          | 5, _ => simpa using hu.symm
        rw [hu2]
        exact ⟨repC_of_D h5, RepD.one h5⟩
      | j + 2 => simp at hp
    · intro l J Jx W hW hJ hJx hY h0
      have hcell : ∀ b o v, ok b o → w.cell? ⟨b, o, none⟩ = some v → W.cell? ⟨b, o, none⟩ = some v := fun b o v k1 k2 => (hW.cell (p := ⟨b, o, none⟩) (hok b o k1)).trans k2
      exact back_in l W J Jx ok b (o + 0) A es.length c us hlen hc h3.1 (hcell _ _ _ h3.1 h3.2) (fun hn => by
        obtain ⟨b', o', e1, e2⟩ := hb (fun e => hn (by rw [e]; rfl))
        exact ⟨b', o', e1, fun i j hi hj => ⟨(e2 i j hi hj).1, hcell _ _ _ (e2 i j hi hj).1 (e2 i j hi hj).2⟩⟩) h0 hY
  | _ => rw [h4] at h2; cases h2
end Go.Vai

/- Walking a term: a term's arguments are put on a stack. No condition. -/
namespace Go.Vai
open Go.Proofs

theorem back_ok (ts : List Tm) : Snd 108 [tsv ts] [.clo 132 [.ept [tsv ts]]] := by
  refine sound_pure (Γ := G 4 (fun _ => false) (fun _ => false) (fun _ => false)) (G_ok _ _ _ _) Try.func108 rfl (by decide) rfl rfl rfl ?_
  repeat' ((try conv => whnf); with_reducible first | refine AWP.seq ?_ | refine AWP.region (G_ok _ _ _ _) rfl ?_ | refine AWP.block ?_ | refine AWP.cond rfl ?_ | refine AWP.ret ?_ | refine AWP.skip ?_ | refine AWP.exit ?_ | refine AWP.label ?_ | refine AWP.goto ?_ | refine Br (fun h => ?_) (fun h => ?_))
  all_goals (try conv => whnf)
  exact finP rfl rfl

/-- A term on the way, and its depth. -/
def atc (t : Tm) (d : Int) : List PV := t.cells ++ [iv d]
def pushE (es : List (List PV)) (t : Tm) (d : Int) : List (List PV) := if t.k = 5 then es ++ t.ts.reverse.map (fun a => atc a (d + 1)) else es

theorem oneE {e : List PV} {n : Nat} (h : e.length = n) : ∀ (i : Nat) e', [e][i]? = some e' → e'.length = n := fun i e' he => by
  cases i with
  | zero => simp at he; subst he; exact h
  | succ i => simp at he

/-- The end of a function that was handed one row, and hands it back. -/
theorem handsRow {st : St} {ps : List PV} {sz : Nat} {es es' : List (List PV)} (h : st.H 0 = some (.row sz es')) (he : es' = es) (hp : demL2 ps = [.xs 0 none]) : ∃ ks, HandsW 1 ps st [.xs 0 none] [.row sz es] ks := by
  subst he
  refine ⟨[0], rfl, fun i hi => ?_, fun i k hk hi => ?_, rfl, ⟨h, trivial⟩, hp, rfl, rfl⟩
  · have : i = 0 := by omega
    subst this; rfl
  · have h1 := (List.getElem?_eq_some_iff.1 hk).1
    have h1 : i < 1 := h1
    omega

theorem rev_range (ts : List Tm) (f : Tm → List PV) (k : Nat) (hk : k ≤ ts.length) (dflt : Tm) : (List.range k).map (fun x => f (ts.getD (ts.length - 1 - x) dflt)) = (ts.reverse.take k).map f := by
  apply List.ext_getElem
  · simp; omega
  · intro i h1 h2
    simp at h1 h2
    simp [List.getElem_reverse, List.getD_eq_getElem?_getD, show ts.length - 1 - i < ts.length by omega]

theorem push_ok (es : List (List PV)) (t : Tm) (d : Int) (hes : ∀ (i : Nat) e, es[i]? = some e → e.length = 7) (hl : es.length ≤ 100000) (ht : t.Fit) (hd : 0 ≤ d ∧ d ≤ 1000000) :
    SoundAt Try.prog 91 [.xs 0 none, .agg (atc t d)] [.row 7 es] (tupOf [.xs 0 none]) [.row 7 (pushE es t d)] := by
  refine sound_fn (Γ := G 26 (fun _ => false) (fun _ => false) (fun k => Nat.beq k 0)) (G_ok _ _ _ _) false Try.func91 rfl (by decide) rfl (Nat.le_of_ble_eq_true rfl) (Nat.le_refl _) (Nat.le_of_ble_eq_true rfl) (fun k hk r hr => by have := Nat.eq_of_beq_eq_true hk; subst this; cases hr; rfl) ?_
  repeat' ((try conv => whnf); with_reducible first | refine AWP.seq ?_ | refine AWP.region (G_ok _ _ _ _) rfl ?_ | refine AWP.block ?_ | refine AWP.cond rfl ?_ | refine AWP.ret ?_ | refine AWP.skip ?_ | refine AWP.exit ?_ | refine AWP.label ?_ | refine AWP.goto ?_ | refine Br (fun h => ?_) (fun h => ?_))
  all_goals (try conv => whnf)
  · simp at h
    refine ⟨_, _, back_ok t.ts, ?_⟩
    repeat' ((try conv => whnf); with_reducible first | refine AWP.seq ?_ | refine AWP.region (G_ok _ _ _ _) rfl ?_ | refine AWP.block ?_ | refine AWP.cond rfl ?_ | refine AWP.ret ?_ | refine AWP.skip ?_ | refine AWP.exit ?_ | refine AWP.label ?_ | refine AWP.goto ?_ | refine Br (fun h => ?_) (fun h => ?_))
    refine AWP.rangeFunc rfl rfl rfl rfl rfl ⟨_, Try.func132, by decide, rfl⟩ t.ts.length _ (fun _ => rfl)
      (by have := back_iter (t.ts.map Tm.enc) false (by have := ht.len; simpa using this) (fun e he => by obtain ⟨u, _, rfl⟩ := List.mem_map.1 he; rw [Tm.enc_eq]; rfl); rw [List.length_map] at this; exact this)
      (fun pre st => pre.length ≤ t.ts.length ∧ Has st [(2, .ptr 102 0 0), (3, .ptr 103 0 0)] [(102, .cell [.xs 0 none]), (103, .cell (atc t d)), (0, .row 7 (es ++ pre.map (fun x => atc (t.ts.getD (t.ts.length - 1 - x) t) (d + 1))))])
      ⟨Nat.zero_le _, ⟨⟨rfl, rfl, trivial⟩, ⟨rfl, rfl, by simp; rfl, trivial⟩⟩⟩ ?_ ?_
    · rintro pre x st hlen ⟨hp, hst⟩
      obtain ⟨f, H, rfl⟩ := hst.canon
      have hwx : (List.map Tm.enc t.ts).getD (t.ts.length - 1 - x) [] = (t.ts.getD (t.ts.length - 1 - x) t).cells := by
        have hi : t.ts.length - 1 - x < t.ts.length := by omega
        simp [List.getD_eq_getElem?_getD, hi, Tm.enc_eq]
      rw [hwx]
      repeat' ((try conv => whnf); with_reducible first | refine AWP.seq ?_ | refine AWP.region (Ctx.Ok.inR (G_ok _ _ _ _)) rfl ?_ | refine AWP.block ?_ | refine AWP.cond rfl ?_ | refine AWP.ret ?_ | refine AWP.skip ?_ | refine AWP.exit ?_ | refine AWP.label ?_ | refine AWP.goto ?_ | refine Br (fun h => ?_) (fun h => ?_))
      all_goals (try conv => whnf)
      refine ⟨⟨oneE rfl, ?_⟩, ?_⟩
      · show (es ++ List.map _ pre).length + 1 ≤ 1073741824
        have := ht.len
        simp
        omega
      repeat' ((try conv => whnf); with_reducible first | refine AWP.seq ?_ | refine AWP.region (Ctx.Ok.inR (G_ok _ _ _ _)) rfl ?_ | refine AWP.block ?_ | refine AWP.cond rfl ?_ | refine AWP.ret ?_ | refine AWP.skip ?_ | refine AWP.exit ?_ | refine AWP.label ?_ | refine AWP.goto ?_ | refine Br (fun h => ?_) (fun h => ?_))
      all_goals (try conv => whnf)
      have hw : IntKind.i64.wrap (d + 1) = d + 1 := i64_of (by omega) (by omega)
      refine ⟨by simp; omega, ⟨rfl, rfl, trivial⟩, ⟨rfl, rfl, ?_, trivial⟩⟩
      show some (Row.row 7 (appE (es ++ List.map _ pre) [(t.ts.getD (t.ts.length - 1 - x) t).cells ++ [iv (IntKind.i64.wrap (d + 1))]])) = _
      rw [appE_eq, hw, List.map_append, List.append_assoc]
      rfl
    · rintro st ⟨hp, hst⟩
      obtain ⟨f, H, rfl⟩ := hst.canon
      repeat' ((try conv => whnf); with_reducible first | refine AWP.seq ?_ | refine AWP.region (G_ok _ _ _ _) rfl ?_ | refine AWP.block ?_ | refine AWP.cond rfl ?_ | refine AWP.ret ?_ | refine AWP.skip ?_ | refine AWP.exit ?_ | refine AWP.label ?_ | refine AWP.goto ?_ | refine Br (fun h => ?_) (fun h => ?_))
      all_goals (try conv => whnf)
      refine handsRow rfl ?_ rfl
      rw [pushE, if_pos h, rev_range t.ts (fun a => atc a (d + 1)) t.ts.length (Nat.le_refl _) t, List.take_of_length_le (by simp)]
  · simp at h
    refine handsRow rfl ?_ rfl
    rw [pushE, if_neg h]

end Go.Vai

/- The program's walk through a term, nothing done at each. No condition. -/
namespace Go.Vai
open Go.Proofs

/-- The stack's top comes first. -/
def kids (t : Tm) (d : Int) : List (Tm × Int) := if t.k = 5 then t.ts.map (fun a => (a, d + 1)) else []
def walkS : Nat → List (Tm × Int) → Int → Int × Int × Int
  | left, [], dp => (2000 - left, dp, 0)
  | 0, _ :: _, _ => (0, 0, 3)
  | left + 1, (t, d) :: r, dp => if d > 500 then (0, 0, 3) else if oneT t ≠ 0 then (0, 0, oneT t) else walkS left (kids t d ++ r) (if dp < d then d else dp)

def stackE (l : List (Tm × Int)) : List (List PV) := l.reverse.map fun x => atc x.1 x.2

theorem stack_push (t : Tm) (d : Int) (r : List (Tm × Int)) : pushE (stackE r) t d = stackE (kids t d ++ r) := by
  unfold pushE kids stackE
  split <;> simp

theorem oneT_len {t : Tm} (h : oneT t = 0) (h5 : t.k = 5) : t.ts.length ≤ 20 := by
  unfold oneT at h
  split at h
  · cases h
  · split at h
    · cases h
    · rename_i h2
      unfold bigT at h2
      omega

theorem hands3 {st : St} {ps : List PV} {a b c : Int} {q : Int × Int × Int} (hp : demL2 ps = [iv a, iv b, iv c]) (h : q = (a, b, c)) : ∃ ks, HandsW 0 ps st [iv q.1, iv q.2.1, iv q.2.2] [] ks := by
  subst h
  exact hands0 hp rfl

theorem walk_nil_ok (t : Tm) (ht : t.Fit) : Snd 64 [t.pv, .s .nilFunc] [iv (walkS 2000 [(t, 1)] 0).1, iv (walkS 2000 [(t, 1)] 0).2.1, iv (walkS 2000 [(t, 1)] 0).2.2] := by
  refine sound_pure (Γ := G 56 (fun g => Nat.beq g 91) (fun d => Nat.beq d 11 || Nat.beq d 27) (fun _ => false)) (G_ok _ _ _ _) Try.func64 rfl (by decide) rfl rfl rfl ?_
  repeat' ((try conv => whnf); with_reducible first | refine AWP.seq ?_ | refine AWP.region (G_ok _ _ _ _) rfl ?_ | refine AWP.block ?_ | refine AWP.cond rfl ?_ | refine AWP.ret ?_ | refine AWP.skip ?_ | refine AWP.exit ?_ | refine AWP.label ?_ | refine AWP.goto ?_ | refine Br (fun h => ?_) (fun h => ?_))
  all_goals (try conv => whnf)
  refine AWP.scope3 (fun m st => ∃ (left : Nat) (l : List (Tm × Int)) (dp : Int), m = left ∧ left ≤ 2000 ∧ l.length + 20 * left ≤ 40001 ∧ (∀ x ∈ l, x.1.Fit ∧ 0 ≤ x.2 ∧ x.2 ≤ 501) ∧ (0 ≤ dp ∧ dp ≤ 501) ∧
    Has st [(1, .s .nilFunc), (4, iv (2000 - (left : Int))), (5, iv dp), (6, iv 0), (7, .xs 111 none)] [(111, .row 7 (stackE l))] ∧ walkS left l dp = walkS 2000 [(t, 1)] 0) ?_ ?_ ?_
  · rfl
  · refine AWP.region (G_ok _ _ _ _) rfl ?_
    (try conv => whnf)
    refine ⟨2000, 2000, [(t, 1)], 0, rfl, by omega, by simp, by simp [ht], by omega, ⟨⟨rfl, rfl, rfl, rfl, rfl, trivial⟩, ⟨rfl, trivial⟩⟩, rfl⟩
  rintro m st ⟨left, l, dp, rfl, hl, hlen, hf, hdp, hst, hr⟩
  match l, hlen, hf, hst, hr with
  | [], hlen, hf, hst, hr =>
    obtain ⟨f, H, rfl⟩ := hst.canon
    repeat' ((try conv => whnf); with_reducible first | refine AWP.seq ?_ | refine AWP.region (G_ok _ _ _ _) rfl ?_ | refine AWP.block ?_ | refine AWP.cond rfl ?_ | refine AWP.ret ?_ | refine AWP.skip ?_ | refine AWP.exit ?_ | refine AWP.label ?_ | refine AWP.goto ?_ | (refine Br (fun h => ?_) (fun h => ?_) <;> try (exfalso; simp only [decide_eq_true_eq, decide_eq_false_iff_not, beq_iff_eq, beq_eq_false_iff_ne, bne_iff_ne, bne_eq_false_iff_eq, ne_eq, List.length_map, List.length_append, List.length_cons, List.length_nil] at *; omega)))
    all_goals (try conv => whnf)
    exact hands3 rfl (by rw [← hr, walkS])
  | (u, d) :: r, hlen, hf, hst, hr =>
    have hs : stackE ((u, d) :: r) = stackE r ++ [atc u d] := by simp [stackE]
    have hlr : (stackE r).length = r.length := by simp [stackE]
    rw [hs] at hst
    obtain ⟨f, H, rfl⟩ := hst.canon
    simp at hlen
    repeat' ((try conv => whnf); with_reducible first | refine AWP.seq ?_ | refine AWP.region (G_ok _ _ _ _) rfl ?_ | refine AWP.block ?_ | refine AWP.cond rfl ?_ | refine AWP.ret ?_ | refine AWP.skip ?_ | refine AWP.exit ?_ | refine AWP.label ?_ | refine AWP.goto ?_ | (refine Br (fun h => ?_) (fun h => ?_) <;> try (exfalso; simp only [decide_eq_true_eq, decide_eq_false_iff_not, beq_iff_eq, beq_eq_false_iff_ne, bne_iff_ne, bne_eq_false_iff_eq, ne_eq, List.length_map, List.length_append, List.length_cons, List.length_nil] at *; omega)))
    all_goals (try conv => whnf)
    have hw1 : IntKind.i64.wrap (((stackE r ++ [atc u d]).length : Int) - 1) = (stackE r).length := by
      rw [List.length_append]
      simp only [List.length_cons, List.length_nil]
      exact (i64_of (by omega) (by omega)).trans (by omega)
    refine ⟨by rw [hw1, List.length_append]; simp only [List.length_cons, List.length_nil]; omega, ?_⟩
    repeat' ((try conv => whnf); with_reducible first | refine AWP.seq ?_ | refine AWP.region (G_ok _ _ _ _) rfl ?_ | refine AWP.block ?_ | refine AWP.cond rfl ?_ | refine AWP.ret ?_ | refine AWP.skip ?_ | refine AWP.exit ?_ | refine AWP.label ?_ | refine AWP.goto ?_ | (refine Br (fun h => ?_) (fun h => ?_) <;> try (exfalso; simp only [decide_eq_true_eq, decide_eq_false_iff_not, beq_iff_eq, beq_eq_false_iff_ne, bne_iff_ne, bne_eq_false_iff_eq, ne_eq, List.length_map, List.length_append, List.length_cons, List.length_nil] at *; omega)))
    all_goals (try conv => whnf)
    refine ⟨atc u d, by rw [hw1]; simp, ?_⟩
    repeat' ((try conv => whnf); with_reducible first | refine AWP.seq ?_ | refine AWP.region (G_ok _ _ _ _) rfl ?_ | refine AWP.block ?_ | refine AWP.cond rfl ?_ | refine AWP.ret ?_ | refine AWP.skip ?_ | refine AWP.exit ?_ | refine AWP.label ?_ | refine AWP.goto ?_ | (refine Br (fun h => ?_) (fun h => ?_) <;> try (exfalso; simp only [decide_eq_true_eq, decide_eq_false_iff_not, beq_iff_eq, beq_eq_false_iff_ne, bne_iff_ne, bne_eq_false_iff_eq, ne_eq, List.length_map, List.length_append, List.length_cons, List.length_nil] at *; omega)))
    all_goals (try conv => whnf)
    refine ⟨by rw [hw1, List.length_append]; simp only [List.length_cons, List.length_nil]; omega, ?_⟩
    repeat' ((try conv => whnf); with_reducible first | refine AWP.seq ?_ | refine AWP.region (G_ok _ _ _ _) rfl ?_ | refine AWP.block ?_ | refine AWP.cond rfl ?_ | refine AWP.ret ?_ | refine AWP.skip ?_ | refine AWP.exit ?_ | refine AWP.label ?_ | refine AWP.goto ?_ | (refine Br (fun h => ?_) (fun h => ?_) <;> try (exfalso; simp only [decide_eq_true_eq, decide_eq_false_iff_not, beq_iff_eq, beq_eq_false_iff_ne, bne_iff_ne, bne_eq_false_iff_eq, ne_eq, List.length_map, List.length_append, List.length_cons, List.length_nil] at *; omega)))
    all_goals (try conv => whnf)
    · simp at h
      have hm0 : m = 0 := by omega
      subst hm0
      exact hands3 rfl (by rw [← hr, walkS])
    · rename_i h1
      simp at h h1
      obtain ⟨m, rfl⟩ : ∃ k, m = k + 1 := ⟨m - 1, by omega⟩
      exact hands3 rfl (by rw [← hr, walkS, if_pos h])
    rename_i h1
    simp at h h1
    obtain ⟨m, rfl⟩ : ∃ k, m = k + 1 := ⟨m - 1, by omega⟩
    have hfu := hf _ (List.mem_cons_self)
    refine ⟨_, _, one_ok u hfu.1.len, ?_⟩
    repeat' ((try conv => whnf); with_reducible first | refine AWP.seq ?_ | refine AWP.region (G_ok _ _ _ _) rfl ?_ | refine AWP.block ?_ | refine AWP.cond rfl ?_ | refine AWP.ret ?_ | refine AWP.skip ?_ | refine AWP.exit ?_ | refine AWP.label ?_ | refine AWP.goto ?_ | refine Br (fun h => ?_) (fun h => ?_))
    all_goals (try conv => whnf)
    · simp at h
      exact hands3 rfl (by rw [← hr, walkS, if_neg (by omega), if_pos h])
    simp at h
    refine ⟨[111], [.xs 0 none, .agg (atc u d)], [.row 7 (stackE r)], .xs 0 none, [.row 7 (pushE (stackE r) u d)], ⟨rfl, rfl, rfl, ⟨?_, trivial⟩, rfl, rfl, rfl, rfl, rfl⟩, push_ok (stackE r) u d (fun i e he => ?_) (by omega) hfu.1 (by omega), ?_⟩
    · show some (Row.row 7 (List.take (IntKind.i64.wrap _).toNat (stackE r ++ [atc u d]))) = some (Row.row 7 (stackE r))
      rw [hw1]
      simp
    · have := List.mem_of_getElem? he
      unfold stackE at this
      obtain ⟨x, _, rfl⟩ := List.mem_map.1 this
      rfl
    repeat' ((try conv => whnf); with_reducible first | refine AWP.seq ?_ | refine AWP.region (G_ok _ _ _ _) rfl ?_ | refine AWP.block ?_ | refine AWP.cond rfl ?_ | refine AWP.ret ?_ | refine AWP.skip ?_ | refine AWP.exit ?_ | refine AWP.label ?_ | refine AWP.goto ?_ | refine Br (fun h => ?_) (fun h => ?_))
    all_goals (try conv => whnf)
    have hw2 : IntKind.i64.wrap ((2000 : Int) - ((m + 1 : Nat) : Int) + 1) = 2000 - (m : Int) := (i64_of (by omega) (by omega)).trans (by omega)
    have hkl : (kids u d).length ≤ 20 := by
      unfold kids
      split
      · rename_i h5
        simpa using oneT_len h h5
      · simp
    refine ⟨m, by omega, m, kids u d ++ r, if dp < d then d else dp, rfl, by omega, by rw [List.length_append]; omega, fun x hx => ?_, by split <;> omega, ⟨⟨rfl, ?_, rfl, ?_, rfl, trivial⟩, ⟨?_, trivial⟩⟩, ?_⟩
    · rcases List.mem_append.1 hx with hx | hx
      · unfold kids at hx
        split at hx
        · obtain ⟨a, ha, rfl⟩ := List.mem_map.1 hx
          exact ⟨hfu.1.arg a ha, by show 0 ≤ d + 1; omega, by show d + 1 ≤ 501; omega⟩
        · cases hx
      · exact hf x (List.mem_cons_of_mem _ hx)
    · show PV.s (.int .i64 (IntKind.i64.wrap ((2000 : Int) - ((m + 1 : Nat) : Int) + 1))) = _
      rw [hw2]
    · show PV.s (.int .i64 (oneT u)) = _
      rw [h]
    · show some (Row.row 7 (pushE (stackE r) u d)) = _
      rw [stack_push]
    · rw [← hr, walkS, if_neg (show ¬ d > 500 by omega), if_neg (show ¬ oneT u ≠ 0 by simp [h])]

end Go.Vai

/- May, Plain; the order's Compare. No condition. -/
namespace Go.Vai
open Go.Proofs

/-- What is wrong with a term. -/
def mayP (t : Tm) : Int := (walkS 2000 [(t, 1)] 0).2.2
theorem tmay_ok (t : Tm) (ht : t.Fit) : Snd 42 [t.pv] [iv (mayP t)] := by
  refine sound_pure (Γ := G 13 (fun _ => false) (fun _ => false) (fun _ => false)) (G_ok _ _ _ _) Try.func42 rfl (by decide) rfl rfl rfl ?_
  repeat' ((try conv => whnf); with_reducible first | refine AWP.seq ?_ | refine AWP.region (G_ok _ _ _ _) rfl ?_ | refine AWP.block ?_ | refine AWP.cond rfl ?_ | refine AWP.ret ?_ | refine AWP.skip ?_ | refine AWP.exit ?_ | refine AWP.label ?_ | refine AWP.goto ?_ | refine Br (fun h => ?_) (fun h => ?_))
  refine ⟨_, _, walk_nil_ok t ht, ?_⟩
  repeat' ((try conv => whnf); with_reducible first | refine AWP.seq ?_ | refine AWP.region (G_ok _ _ _ _) rfl ?_ | refine AWP.block ?_ | refine AWP.cond rfl ?_ | refine AWP.ret ?_ | refine AWP.skip ?_ | refine AWP.exit ?_ | refine AWP.label ?_ | refine AWP.goto ?_ | refine Br (fun h => ?_) (fun h => ?_))
  all_goals (try conv => whnf)
  exact finI rfl rfl

theorem variable_ok (n : Int) : Snd 69 [iv n] [(mkVar n).pv] := by
  refine sound_pure (Γ := G 5 (fun _ => false) (fun _ => false) (fun _ => false)) (G_ok _ _ _ _) Try.func69 rfl (by decide) rfl rfl rfl ?_
  repeat' ((try conv => whnf); with_reducible first | refine AWP.seq ?_ | refine AWP.region (G_ok _ _ _ _) rfl ?_ | refine AWP.block ?_ | refine AWP.cond rfl ?_ | refine AWP.ret ?_ | refine AWP.skip ?_ | refine AWP.exit ?_ | refine AWP.label ?_ | refine AWP.goto ?_ | refine Br (fun h => ?_) (fun h => ?_))
  all_goals (try conv => whnf)
  exact finP rfl rfl

def tz : Tm := .mk 0 es0 0 0 0 []
def plainT (t : Tm) : Tm := if mayP t ≠ 0 then tz else turnT mkVar t
theorem tplain_ok (t : Tm) (ht : t.Fit) : Snd 44 [t.pv] [(plainT t).pv] := by
  refine sound_pure (Γ := G 9 (fun _ => false) (fun _ => false) (fun _ => false)) (G_ok _ _ _ _) Try.func44 rfl (by decide) rfl rfl rfl ?_
  repeat' ((try conv => whnf); with_reducible first | refine AWP.seq ?_ | refine AWP.region (G_ok _ _ _ _) rfl ?_ | refine AWP.block ?_ | refine AWP.cond rfl ?_ | refine AWP.ret ?_ | refine AWP.skip ?_ | refine AWP.exit ?_ | refine AWP.label ?_ | refine AWP.goto ?_ | refine Br (fun h => ?_) (fun h => ?_))
  refine ⟨_, _, tmay_ok t ht, ?_⟩
  repeat' ((try conv => whnf); with_reducible first | refine AWP.seq ?_ | refine AWP.region (G_ok _ _ _ _) rfl ?_ | refine AWP.block ?_ | refine AWP.cond rfl ?_ | refine AWP.ret ?_ | refine AWP.skip ?_ | refine AWP.exit ?_ | refine AWP.label ?_ | refine AWP.goto ?_ | refine Br (fun h => ?_) (fun h => ?_))
  all_goals (try conv => whnf)
  · simp at h
    rw [plainT, if_pos h]
    exact finP rfl rfl
  · simp at h
    refine ⟨_, _, turn_ok 69 mkVar variable_ok t ht, ?_⟩
    repeat' ((try conv => whnf); with_reducible first | refine AWP.seq ?_ | refine AWP.region (G_ok _ _ _ _) rfl ?_ | refine AWP.block ?_ | refine AWP.cond rfl ?_ | refine AWP.ret ?_ | refine AWP.skip ?_ | refine AWP.exit ?_ | refine AWP.label ?_ | refine AWP.goto ?_ | refine Br (fun h => ?_) (fun h => ?_))
    all_goals (try conv => whnf)
    rw [plainT, if_neg (by simpa using h)]
    exact finP rfl rfl

theorem omay_ok (t : Tm) (ht : t.Fit) : Snd 47 [t.pv] [bv (mayP t == 0)] := by
  refine sound_pure (Γ := G 6 (fun _ => false) (fun _ => false) (fun _ => false)) (G_ok _ _ _ _) Try.func47 rfl (by decide) rfl rfl rfl ?_
  repeat' ((try conv => whnf); with_reducible first | refine AWP.seq ?_ | refine AWP.region (G_ok _ _ _ _) rfl ?_ | refine AWP.block ?_ | refine AWP.cond rfl ?_ | refine AWP.ret ?_ | refine AWP.skip ?_ | refine AWP.exit ?_ | refine AWP.label ?_ | refine AWP.goto ?_ | refine Br (fun h => ?_) (fun h => ?_))
  refine ⟨_, _, tmay_ok t ht, ?_⟩
  repeat' ((try conv => whnf); with_reducible first | refine AWP.seq ?_ | refine AWP.region (G_ok _ _ _ _) rfl ?_ | refine AWP.block ?_ | refine AWP.cond rfl ?_ | refine AWP.ret ?_ | refine AWP.skip ?_ | refine AWP.exit ?_ | refine AWP.label ?_ | refine AWP.goto ?_ | refine Br (fun h => ?_) (fun h => ?_))
  all_goals (try conv => whnf)
  exact finB rfl rfl

def compareP (a b : Tm) : Int := if mayP a ≠ 0 ∨ mayP b ≠ 0 then 0 else compareT a b
theorem ocompare_ok (a b : Tm) (ha : a.Fit) (hb : b.Fit) : Snd 22 [a.pv, b.pv] [iv (compareP a b)] := by
  refine sound_pure (Γ := G 16 (fun _ => false) (fun _ => false) (fun _ => false)) (G_ok _ _ _ _) Try.func22 rfl (by decide) rfl rfl rfl ?_
  repeat' ((try conv => whnf); with_reducible first | refine AWP.seq ?_ | refine AWP.region (G_ok _ _ _ _) rfl ?_ | refine AWP.block ?_ | refine AWP.cond rfl ?_ | refine AWP.ret ?_ | refine AWP.skip ?_ | refine AWP.exit ?_ | refine AWP.label ?_ | refine AWP.goto ?_ | refine Br (fun h => ?_) (fun h => ?_))
  refine ⟨_, _, omay_ok a ha, ?_⟩
  repeat' ((try conv => whnf); with_reducible first | refine AWP.seq ?_ | refine AWP.region (G_ok _ _ _ _) rfl ?_ | refine AWP.block ?_ | refine AWP.cond rfl ?_ | refine AWP.ret ?_ | refine AWP.skip ?_ | refine AWP.exit ?_ | refine AWP.label ?_ | refine AWP.goto ?_ | refine Br (fun h => ?_) (fun h => ?_))
  all_goals (try conv => whnf)
  · simp at h
    rw [compareP, if_pos (.inl h)]
    exact finI rfl rfl
  · simp at h
    refine ⟨_, _, omay_ok b hb, ?_⟩
    repeat' ((try conv => whnf); with_reducible first | refine AWP.seq ?_ | refine AWP.region (G_ok _ _ _ _) rfl ?_ | refine AWP.block ?_ | refine AWP.cond rfl ?_ | refine AWP.ret ?_ | refine AWP.skip ?_ | refine AWP.exit ?_ | refine AWP.label ?_ | refine AWP.goto ?_ | refine Br (fun h => ?_) (fun h => ?_))
    all_goals (try conv => whnf)
    · rename_i h1
      simp at h
      rw [compareP, if_pos (.inr h)]
      exact finI rfl rfl
    · rename_i h1
      simp at h
      refine ⟨_, _, compare_ok a b ha hb, ?_⟩
      repeat' ((try conv => whnf); with_reducible first | refine AWP.seq ?_ | refine AWP.region (G_ok _ _ _ _) rfl ?_ | refine AWP.block ?_ | refine AWP.cond rfl ?_ | refine AWP.ret ?_ | refine AWP.skip ?_ | refine AWP.exit ?_ | refine AWP.label ?_ | refine AWP.goto ?_ | refine Br (fun h => ?_) (fun h => ?_))
      all_goals (try conv => whnf)
      rw [compareP, if_neg (by simp [h, h1])]
      exact finI rfl rfl

end Go.Vai

/- Insertion sort. No condition. -/
namespace Go.Vai
open Go.Proofs

/-- x is put behind the last that does not come after it. -/
def insR {α : Type} (cmp : α → α → Int) (x : α) : List α → List α
  | [] => [x]
  | y :: r => if cmp x y < 0 then y :: insR cmp x r else x :: y :: r
def ins {α : Type} (cmp : α → α → Int) (x : α) (l : List α) : List α := (insR cmp x l.reverse).reverse
theorem ins_nil {α : Type} (cmp : α → α → Int) (x : α) : ins cmp x [] = [x] := rfl
theorem ins_snoc {α : Type} (cmp : α → α → Int) (x y : α) (l : List α) : ins cmp x (l ++ [y]) = if cmp x y < 0 then ins cmp x l ++ [y] else l ++ [y, x] := by
  unfold ins
  rw [List.reverse_append]
  simp only [List.reverse_cons, List.reverse_nil, List.nil_append, List.cons_append, insR]
  split <;> simp
def isortAcc {α : Type} (cmp : α → α → Int) : List α → List α → List α
  | acc, [] => acc
  | acc, x :: r => isortAcc cmp (ins cmp x acc) r
def isort {α : Type} (cmp : α → α → Int) (l : List α) : List α := isortAcc cmp [] l
theorem insR_length {α : Type} (cmp : α → α → Int) (x : α) : ∀ l, (insR cmp x l).length = l.length + 1
  | [] => rfl
  | y :: r => by rw [insR]; split <;> simp [insR_length cmp x r]
theorem ins_length {α : Type} (cmp : α → α → Int) (x : α) (l : List α) : (ins cmp x l).length = l.length + 1 := by simp [ins, insR_length]
theorem isortAcc_snoc {α : Type} (cmp : α → α → Int) (x : α) : ∀ (l acc : List α), isortAcc cmp acc (l ++ [x]) = ins cmp x (isortAcc cmp acc l)
  | [], acc => rfl
  | y :: r, acc => by rw [List.cons_append, isortAcc, isortAcc_snoc cmp x r]; rfl
theorem isort_snoc {α : Type} (cmp : α → α → Int) (x : α) (l : List α) : isort cmp (l ++ [x]) = ins cmp x (isort cmp l) := isortAcc_snoc cmp x l []
theorem isort_length {α : Type} (cmp : α → α → Int) (l : List α) : (isort cmp l).length = l.length := by
  unfold isort
  have : ∀ (l acc : List α), (isortAcc cmp acc l).length = acc.length + l.length := fun l => by
    induction l with
    | nil => intro acc; simp [isortAcc]
    | cons x r ih => intro acc; rw [isortAcc, ih, ins_length]; simp; omega
  rw [this]; simp
theorem insR_mem {α : Type} (cmp : α → α → Int) (x y : α) : ∀ l, y ∈ insR cmp x l ↔ y = x ∨ y ∈ l
  | [] => by simp [insR]
  | z :: r => by
    rw [insR]; split
    · simp [insR_mem cmp x y r]; constructor <;> (intro h; rcases h with h | h | h <;> simp [h])
    · simp
theorem ins_mem {α : Type} (cmp : α → α → Int) (x y : α) (l : List α) : y ∈ ins cmp x l ↔ y = x ∨ y ∈ l := by simp [ins, insR_mem]
theorem isort_mem {α : Type} (cmp : α → α → Int) (y : α) (l : List α) : y ∈ isort cmp l ↔ y ∈ l := by
  have : ∀ (l acc : List α), y ∈ isortAcc cmp acc l ↔ y ∈ acc ∨ y ∈ l := fun l => by
    induction l with
    | nil => intro acc; simp [isortAcc]
    | cons x r ih => intro acc; rw [isortAcc, ih, ins_mem]; simp only [List.mem_cons]; rw [or_assoc, or_left_comm]
  rw [isort, this]; simp

theorem snocCases {α : Type} (l : List α) : l = [] ∨ ∃ l' a, l = l' ++ [a] := by
  cases l with
  | nil => exact .inl rfl
  | cons x r => exact .inr ⟨_, _, (List.dropLast_concat_getLast (List.cons_ne_nil x r)).symm⟩

/-- The end of a function that was handed one row, and hands nothing back beside it. -/
theorem handsRowN {st : St} {ps : List PV} {sz : Nat} {es es' : List (List PV)} (h : st.H 0 = some (.row sz es')) (he : es' = es) (hp : demL2 ps = []) : ∃ ks, HandsW 1 ps st [] [.row sz es] ks := by
  subst he
  refine ⟨[0], rfl, fun i hi => ?_, fun i k hk hi => ?_, rfl, ⟨h, trivial⟩, hp, rfl, rfl⟩
  · have : i = 0 := by omega
    subst this; rfl
  · have h1 := (List.getElem?_eq_some_iff.1 hk).1
    have h1 : i < 1 := h1
    omega

set_option maxHeartbeats 4000000 in
theorem insertion_ok (g : Nat) (cmp : Tm → Tm → Int) (A S D : List Tm) (hg : ∀ x ∈ S, ∀ y ∈ S, Snd g [x.pv, y.pv] [iv (cmp x y)]) (hl : A.length + S.length + D.length ≤ 1000000) :
    SoundAt Try.prog 101 [.xs 0 none, iv A.length, iv (A.length + S.length : Nat), fnv g] [.row 6 ((A ++ S ++ D).map Tm.enc)] (tupOf []) [.row 6 ((A ++ isort cmp S ++ D).map Tm.enc)] := by
  refine sound_fn (Γ := G 53 (fun _ => false) (fun _ => false) (fun _ => false)) (G_ok _ _ _ _) false Try.func101 rfl (by decide) rfl (Nat.le_of_ble_eq_true rfl) (Nat.le_refl _) (Nat.le_of_ble_eq_true rfl) (fun k hk => by cases hk) ?_
  repeat' ((try conv => whnf); with_reducible first | refine AWP.seq ?_ | refine AWP.region (G_ok _ _ _ _) rfl ?_ | refine AWP.draw (G_ok _ _ _ _) rfl [0, 0, 3, 7, 15, 15, 15, 111, 239, 15, 15, 1039, 3599, 7695, 16383, 32767, 65535] [2, 1, 1, 10, 1, 1, 1] rfl rfl ?_ | refine AWP.draw (G_ok _ _ _ _) rfl [0, 0, 0, 0, 8, 0, 0, 64, 224, 480, 0, 0, 3072, 7168, 16355, 32739, 65535, 131071] [16, 1, 1] rfl rfl ?_ | refine AWP.block ?_ | refine AWP.cond rfl ?_ | refine AWP.ret ?_ | refine AWP.skip ?_ | refine AWP.exit ?_ | refine AWP.label ?_ | refine AWP.goto ?_ | refine Br (fun h => ?_) (fun h => ?_))
  all_goals (try conv => whnf)
  have hlen : ∀ (X Y Z : List Tm), ((X ++ Y ++ Z).map Tm.enc).length = X.length + Y.length + Z.length := fun X Y Z => by simp; omega
  have hbnd : ∀ n : Nat, n ≤ 1000000 → IntKind.i64.wrap (n : Int) = n := fun n hn => i64_of (by omega) (by omega)
  have hb1 : ∀ n : Nat, n ≤ 1000000 → IntKind.i64.wrap ((n : Int) + 1) = ((n + 1 : Nat) : Int) := fun n hn => (i64_of (by omega) (by omega)).trans (by omega)
  refine AWP.loop (fun m st => ∃ k : Nat, m = S.length - k ∧ 1 ≤ k ∧ (k ≤ S.length ∨ k = 1) ∧ Has st [(0, .xs 0 none), (1, iv A.length), (2, iv (A.length + S.length : Nat)), (3, fnv g), (8, iv ((A.length + k : Nat) : Int))] [(0, .row 6 ((A ++ isort cmp (S.take k) ++ (S.drop k ++ D)).map Tm.enc))]) (S.length - 1) ?_ ?_
  · refine ⟨1, rfl, Nat.le_refl _, .inr rfl, ⟨rfl, rfl, rfl, rfl, ?_, trivial⟩, ⟨?_, trivial⟩⟩
    · show PV.s (.int .i64 (IntKind.i64.wrap ((A.length : Int) + 1))) = _
      rw [hb1 _ (by omega)]
    · show some (Row.row 6 ((A ++ S ++ D).map Tm.enc)) = _
      have : isort cmp (S.take 1) ++ (S.drop 1 ++ D) = S ++ D := by cases S <;> simp [isort, isortAcc, ins_nil]
      rw [List.append_assoc, List.append_assoc, this]
  rintro m st ⟨k, rfl, hk1, hk, hst⟩
  obtain ⟨f, H, rfl⟩ := hst.canon
  repeat' ((try conv => whnf); with_reducible first | refine AWP.seq ?_ | refine AWP.region (G_ok _ _ _ _) rfl ?_ | refine AWP.draw (G_ok _ _ _ _) rfl [0, 0, 3, 7, 15, 15, 15, 111, 239, 15, 15, 1039, 3599, 7695, 16383, 32767, 65535] [2, 1, 1, 10, 1, 1, 1] rfl rfl ?_ | refine AWP.draw (G_ok _ _ _ _) rfl [0, 0, 0, 0, 8, 0, 0, 64, 224, 480, 0, 0, 3072, 7168, 16355, 32739, 65535, 131071] [16, 1, 1] rfl rfl ?_ | refine AWP.block ?_ | refine AWP.cond rfl ?_ | refine AWP.ret ?_ | refine AWP.skip ?_ | refine AWP.exit ?_ | refine AWP.label ?_ | refine AWP.goto ?_ | refine Br (fun h => ?_) (fun h => ?_))
  all_goals (try conv => whnf)
  · simp at h
    have hks : k < S.length := by omega
    have hdrop : S.drop k = S[k] :: S.drop (k + 1) := List.drop_eq_getElem_cons hks
    have htake : S.take (k + 1) = S.take k ++ [S[k]] := List.take_succ_eq_append_getElem hks
    have hx : S[k] ∈ S := List.getElem_mem hks
    generalize S[k] = x at hdrop htake hx
    refine AWP.loop (fun m st => ∃ L R : List Tm, m = L.length ∧ isort cmp (S.take k) = L ++ R ∧ ins cmp x (isort cmp (S.take k)) = ins cmp x L ++ R ∧
      Has st [(0, .xs 0 none), (1, iv A.length), (2, iv (A.length + S.length : Nat)), (3, fnv g), (8, iv ((A.length + k : Nat) : Int)), (9, iv ((A.length + L.length : Nat) : Int))] [(0, .row 6 ((A ++ L ++ x :: (R ++ (S.drop (k + 1) ++ D))).map Tm.enc))]) k ?_ ?_
    · refine ⟨isort cmp (S.take k), [], by rw [isort_length]; simp; omega, by simp, by simp, ⟨rfl, rfl, rfl, rfl, rfl, ?_, trivial⟩, ⟨?_, trivial⟩⟩
      · show iv ((A.length + k : Nat) : Int) = _
        rw [isort_length, List.length_take, Nat.min_eq_left (by omega)]
      · show some (Row.row 6 ((A ++ isort cmp (S.take k) ++ (S.drop k ++ D)).map Tm.enc)) = _
        rw [hdrop]; rfl
    rintro m st ⟨L, R, rfl, hLR, hins, hst⟩
    have hll : L.length + R.length = k := by
      have := congrArg List.length hLR
      rw [isort_length, List.length_take, Nat.min_eq_left (by omega), List.length_append] at this
      omega
    obtain ⟨T, hT⟩ : ∃ T, T = R ++ (S.drop (k + 1) ++ D) := ⟨_, rfl⟩
    have hTl : A.length + L.length + 1 + T.length ≤ 1000000 := by rw [hT]; simp; omega
    rw [← hT] at hst
    rcases snocCases L with rfl | ⟨L', y, rfl⟩
    · obtain ⟨f, H, rfl⟩ := hst.canon
      repeat' ((try conv => whnf); with_reducible first | refine AWP.seq ?_ | refine AWP.region (G_ok _ _ _ _) rfl ?_ | refine AWP.draw (G_ok _ _ _ _) rfl [0, 0, 3, 7, 15, 15, 15, 111, 239, 15, 15, 1039, 3599, 7695, 16383, 32767, 65535] [2, 1, 1, 10, 1, 1, 1] rfl rfl ?_ | refine AWP.draw (G_ok _ _ _ _) rfl [0, 0, 0, 0, 8, 0, 0, 64, 224, 480, 0, 0, 3072, 7168, 16355, 32739, 65535, 131071] [16, 1, 1] rfl rfl ?_ | refine AWP.block ?_ | refine AWP.cond rfl ?_ | refine AWP.ret ?_ | refine AWP.skip ?_ | refine AWP.exit ?_ | refine AWP.label ?_ | refine AWP.goto ?_ | (refine Br (fun h => ?_) (fun h => ?_) <;> try (exfalso; simp only [decide_eq_true_eq, decide_eq_false_iff_not, beq_iff_eq, beq_eq_false_iff_ne, bne_iff_ne, bne_eq_false_iff_eq, ne_eq, List.length_map, List.length_append, List.length_cons, List.length_nil] at *; omega)))
      all_goals (try conv => whnf)
      refine ⟨S.length - (k + 1), by omega, k + 1, rfl, by omega, .inl (by omega), ⟨rfl, rfl, rfl, rfl, ?_, trivial⟩, ⟨?_, trivial⟩⟩
      · show PV.s (.int .i64 (IntKind.i64.wrap (((A.length + k : Nat) : Int) + 1))) = _
        rw [hb1 _ (by omega), Nat.add_assoc]
      · show some (Row.row 6 ((A ++ [] ++ x :: T).map Tm.enc)) = _
        rw [htake, isort_snoc, hins, ins_nil, hT]
        simp
    · have hy : y ∈ S := List.mem_of_mem_take ((isort_mem cmp y (S.take k)).1 (by rw [hLR]; simp))
      simp only [List.length_append, List.length_cons, List.length_nil] at hTl hll
      have e1 : A ++ (L' ++ [y]) ++ x :: T = (A ++ L') ++ y :: x :: T := by simp
      have e2 : ((A.length + (L' ++ [y]).length : Nat) : Int) = (((A ++ L').length + 1 : Nat) : Int) := by simp; omega
      rw [e1, e2] at hst
      obtain ⟨W, hW⟩ : ∃ W, W = A ++ L' := ⟨_, rfl⟩
      have hWl : W.length = A.length + L'.length := by rw [hW]; simp
      rw [← hW] at hst
      obtain ⟨f, H, rfl⟩ := hst.canon
      have hrl : ((W ++ y :: x :: T).map Tm.enc).length = W.length + 2 + T.length := by simp; omega
      have g0 : ((W ++ y :: x :: T).map Tm.enc)[W.length]? = some y.cells := by simp [Tm.enc_eq]
      have g1 : ((W ++ y :: x :: T).map Tm.enc)[W.length + 1]? = some x.cells := by simp [Tm.enc_eq]
      have hw : IntKind.i64.wrap (((W.length + 1 : Nat) : Int) - 1) = (W.length : Int) := (i64_of (by omega) (by omega)).trans (by omega)
      have b0 : 0 ≤ IntKind.i64.wrap (((W.length + 1 : Nat) : Int) - 1) ∧ IntKind.i64.wrap (((W.length + 1 : Nat) : Int) - 1) < (((W ++ y :: x :: T).map Tm.enc).length : Int) := by rw [hw, hrl]; omega
      have b1 : 0 ≤ ((W.length + 1 : Nat) : Int) ∧ ((W.length + 1 : Nat) : Int) < (((W ++ y :: x :: T).map Tm.enc).length : Int) := by rw [hrl]; omega
      repeat' ((try conv => whnf); with_reducible first | refine AWP.seq ?_ | refine AWP.region (G_ok _ _ _ _) rfl ?_ | refine AWP.draw (G_ok _ _ _ _) rfl [0, 0, 3, 7, 15, 15, 15, 111, 239, 15, 15, 1039, 3599, 7695, 16383, 32767, 65535] [2, 1, 1, 10, 1, 1, 1] rfl rfl ?_ | refine AWP.draw (G_ok _ _ _ _) rfl [0, 0, 0, 0, 8, 0, 0, 64, 224, 480, 0, 0, 3072, 7168, 16355, 32739, 65535, 131071] [16, 1, 1] rfl rfl ?_ | refine AWP.block ?_ | refine AWP.cond rfl ?_ | refine AWP.ret ?_ | refine AWP.skip ?_ | refine AWP.exit ?_ | refine AWP.label ?_ | refine AWP.goto ?_ | (refine Br (fun h => ?_) (fun h => ?_) <;> try (exfalso; simp only [decide_eq_true_eq, decide_eq_false_iff_not, beq_iff_eq, beq_eq_false_iff_ne, bne_iff_ne, bne_eq_false_iff_eq, ne_eq, List.length_map, List.length_append, List.length_cons, List.length_nil] at *; omega)))
      all_goals (try conv => whnf)
      refine ⟨b1, ?_⟩
      repeat' ((try conv => whnf); with_reducible first | refine AWP.seq ?_ | refine AWP.region (G_ok _ _ _ _) rfl ?_ | refine AWP.draw (G_ok _ _ _ _) rfl [0, 0, 3, 7, 15, 15, 15, 111, 239, 15, 15, 1039, 3599, 7695, 16383, 32767, 65535] [2, 1, 1, 10, 1, 1, 1] rfl rfl ?_ | refine AWP.draw (G_ok _ _ _ _) rfl [0, 0, 0, 0, 8, 0, 0, 64, 224, 480, 0, 0, 3072, 7168, 16355, 32739, 65535, 131071] [16, 1, 1] rfl rfl ?_ | refine AWP.block ?_ | refine AWP.cond rfl ?_ | refine AWP.ret ?_ | refine AWP.skip ?_ | refine AWP.exit ?_ | refine AWP.label ?_ | refine AWP.goto ?_ | (refine Br (fun h => ?_) (fun h => ?_) <;> try (exfalso; simp only [decide_eq_true_eq, decide_eq_false_iff_not, beq_iff_eq, beq_eq_false_iff_ne, bne_iff_ne, bne_eq_false_iff_eq, ne_eq, List.length_map, List.length_append, List.length_cons, List.length_nil] at *; omega)))
      all_goals (try conv => whnf)
      refine ⟨x.cells, g1, ?_⟩
      repeat' ((try conv => whnf); with_reducible first | refine AWP.seq ?_ | refine AWP.region (G_ok _ _ _ _) rfl ?_ | refine AWP.draw (G_ok _ _ _ _) rfl [0, 0, 3, 7, 15, 15, 15, 111, 239, 15, 15, 1039, 3599, 7695, 16383, 32767, 65535] [2, 1, 1, 10, 1, 1, 1] rfl rfl ?_ | refine AWP.draw (G_ok _ _ _ _) rfl [0, 0, 0, 0, 8, 0, 0, 64, 224, 480, 0, 0, 3072, 7168, 16355, 32739, 65535, 131071] [16, 1, 1] rfl rfl ?_ | refine AWP.block ?_ | refine AWP.cond rfl ?_ | refine AWP.ret ?_ | refine AWP.skip ?_ | refine AWP.exit ?_ | refine AWP.label ?_ | refine AWP.goto ?_ | (refine Br (fun h => ?_) (fun h => ?_) <;> try (exfalso; simp only [decide_eq_true_eq, decide_eq_false_iff_not, beq_iff_eq, beq_eq_false_iff_ne, bne_iff_ne, bne_eq_false_iff_eq, ne_eq, List.length_map, List.length_append, List.length_cons, List.length_nil] at *; omega)))
      all_goals (try conv => whnf)
      refine ⟨b0, ?_⟩
      repeat' ((try conv => whnf); with_reducible first | refine AWP.seq ?_ | refine AWP.region (G_ok _ _ _ _) rfl ?_ | refine AWP.draw (G_ok _ _ _ _) rfl [0, 0, 3, 7, 15, 15, 15, 111, 239, 15, 15, 1039, 3599, 7695, 16383, 32767, 65535] [2, 1, 1, 10, 1, 1, 1] rfl rfl ?_ | refine AWP.draw (G_ok _ _ _ _) rfl [0, 0, 0, 0, 8, 0, 0, 64, 224, 480, 0, 0, 3072, 7168, 16355, 32739, 65535, 131071] [16, 1, 1] rfl rfl ?_ | refine AWP.block ?_ | refine AWP.cond rfl ?_ | refine AWP.ret ?_ | refine AWP.skip ?_ | refine AWP.exit ?_ | refine AWP.label ?_ | refine AWP.goto ?_ | (refine Br (fun h => ?_) (fun h => ?_) <;> try (exfalso; simp only [decide_eq_true_eq, decide_eq_false_iff_not, beq_iff_eq, beq_eq_false_iff_ne, bne_iff_ne, bne_eq_false_iff_eq, ne_eq, List.length_map, List.length_append, List.length_cons, List.length_nil] at *; omega)))
      all_goals (try conv => whnf)
      refine ⟨y.cells, by rw [hw]; exact g0, ?_⟩
      repeat' ((try conv => whnf); with_reducible first | refine AWP.seq ?_ | refine AWP.region (G_ok _ _ _ _) rfl ?_ | refine AWP.draw (G_ok _ _ _ _) rfl [0, 0, 3, 7, 15, 15, 15, 111, 239, 15, 15, 1039, 3599, 7695, 16383, 32767, 65535] [2, 1, 1, 10, 1, 1, 1] rfl rfl ?_ | refine AWP.draw (G_ok _ _ _ _) rfl [0, 0, 0, 0, 8, 0, 0, 64, 224, 480, 0, 0, 3072, 7168, 16355, 32739, 65535, 131071] [16, 1, 1] rfl rfl ?_ | refine AWP.block ?_ | refine AWP.cond rfl ?_ | refine AWP.ret ?_ | refine AWP.skip ?_ | refine AWP.exit ?_ | refine AWP.label ?_ | refine AWP.goto ?_ | (refine Br (fun h => ?_) (fun h => ?_) <;> try (exfalso; simp only [decide_eq_true_eq, decide_eq_false_iff_not, beq_iff_eq, beq_eq_false_iff_ne, bne_iff_ne, bne_eq_false_iff_eq, ne_eq, List.length_map, List.length_append, List.length_cons, List.length_nil] at *; omega)))
      all_goals (try conv => whnf)
      refine ⟨_, _, hg x hx y hy, ?_⟩
      repeat' ((try conv => whnf); with_reducible first | refine AWP.seq ?_ | refine AWP.region (G_ok _ _ _ _) rfl ?_ | refine AWP.draw (G_ok _ _ _ _) rfl [0, 0, 3, 7, 15, 15, 15, 111, 239, 15, 15, 1039, 3599, 7695, 16383, 32767, 65535] [2, 1, 1, 10, 1, 1, 1] rfl rfl ?_ | refine AWP.draw (G_ok _ _ _ _) rfl [0, 0, 0, 0, 8, 0, 0, 64, 224, 480, 0, 0, 3072, 7168, 16355, 32739, 65535, 131071] [16, 1, 1] rfl rfl ?_ | refine AWP.block ?_ | refine AWP.cond rfl ?_ | refine AWP.ret ?_ | refine AWP.skip ?_ | refine AWP.exit ?_ | refine AWP.label ?_ | refine AWP.goto ?_ | (refine Br (fun h => ?_) (fun h => ?_) <;> try (exfalso; simp only [decide_eq_true_eq, decide_eq_false_iff_not, beq_iff_eq, beq_eq_false_iff_ne, bne_iff_ne, bne_eq_false_iff_eq, ne_eq, List.length_map, List.length_append, List.length_cons, List.length_nil] at *; omega)))
      all_goals (try conv => whnf)
      · simp at h
        refine ⟨b0, ?_⟩
        repeat' ((try conv => whnf); with_reducible first | refine AWP.seq ?_ | refine AWP.region (G_ok _ _ _ _) rfl ?_ | refine AWP.draw (G_ok _ _ _ _) rfl [0, 0, 3, 7, 15, 15, 15, 111, 239, 15, 15, 1039, 3599, 7695, 16383, 32767, 65535] [2, 1, 1, 10, 1, 1, 1] rfl rfl ?_ | refine AWP.draw (G_ok _ _ _ _) rfl [0, 0, 0, 0, 8, 0, 0, 64, 224, 480, 0, 0, 3072, 7168, 16355, 32739, 65535, 131071] [16, 1, 1] rfl rfl ?_ | refine AWP.block ?_ | refine AWP.cond rfl ?_ | refine AWP.ret ?_ | refine AWP.skip ?_ | refine AWP.exit ?_ | refine AWP.label ?_ | refine AWP.goto ?_ | (refine Br (fun h => ?_) (fun h => ?_) <;> try (exfalso; simp only [decide_eq_true_eq, decide_eq_false_iff_not, beq_iff_eq, beq_eq_false_iff_ne, bne_iff_ne, bne_eq_false_iff_eq, ne_eq, List.length_map, List.length_append, List.length_cons, List.length_nil] at *; omega)))
        all_goals (try conv => whnf)
        refine ⟨y.cells, by rw [hw]; exact g0, ?_⟩
        repeat' ((try conv => whnf); with_reducible first | refine AWP.seq ?_ | refine AWP.region (G_ok _ _ _ _) rfl ?_ | refine AWP.draw (G_ok _ _ _ _) rfl [0, 0, 3, 7, 15, 15, 15, 111, 239, 15, 15, 1039, 3599, 7695, 16383, 32767, 65535] [2, 1, 1, 10, 1, 1, 1] rfl rfl ?_ | refine AWP.draw (G_ok _ _ _ _) rfl [0, 0, 0, 0, 8, 0, 0, 64, 224, 480, 0, 0, 3072, 7168, 16355, 32739, 65535, 131071] [16, 1, 1] rfl rfl ?_ | refine AWP.block ?_ | refine AWP.cond rfl ?_ | refine AWP.ret ?_ | refine AWP.skip ?_ | refine AWP.exit ?_ | refine AWP.label ?_ | refine AWP.goto ?_ | (refine Br (fun h => ?_) (fun h => ?_) <;> try (exfalso; simp only [decide_eq_true_eq, decide_eq_false_iff_not, beq_iff_eq, beq_eq_false_iff_ne, bne_iff_ne, bne_eq_false_iff_eq, ne_eq, List.length_map, List.length_append, List.length_cons, List.length_nil] at *; omega)))
        all_goals (try conv => whnf)
        refine ⟨b1, ?_⟩
        repeat' ((try conv => whnf); with_reducible first | refine AWP.seq ?_ | refine AWP.region (G_ok _ _ _ _) rfl ?_ | refine AWP.draw (G_ok _ _ _ _) rfl [0, 0, 3, 7, 15, 15, 15, 111, 239, 15, 15, 1039, 3599, 7695, 16383, 32767, 65535] [2, 1, 1, 10, 1, 1, 1] rfl rfl ?_ | refine AWP.draw (G_ok _ _ _ _) rfl [0, 0, 0, 0, 8, 0, 0, 64, 224, 480, 0, 0, 3072, 7168, 16355, 32739, 65535, 131071] [16, 1, 1] rfl rfl ?_ | refine AWP.block ?_ | refine AWP.cond rfl ?_ | refine AWP.ret ?_ | refine AWP.skip ?_ | refine AWP.exit ?_ | refine AWP.label ?_ | refine AWP.goto ?_ | (refine Br (fun h => ?_) (fun h => ?_) <;> try (exfalso; simp only [decide_eq_true_eq, decide_eq_false_iff_not, beq_iff_eq, beq_eq_false_iff_ne, bne_iff_ne, bne_eq_false_iff_eq, ne_eq, List.length_map, List.length_append, List.length_cons, List.length_nil] at *; omega)))
        all_goals (try conv => whnf)
        refine ⟨x.cells, g1, ?_⟩
        repeat' ((try conv => whnf); with_reducible first | refine AWP.seq ?_ | refine AWP.region (G_ok _ _ _ _) rfl ?_ | refine AWP.draw (G_ok _ _ _ _) rfl [0, 0, 3, 7, 15, 15, 15, 111, 239, 15, 15, 1039, 3599, 7695, 16383, 32767, 65535] [2, 1, 1, 10, 1, 1, 1] rfl rfl ?_ | refine AWP.draw (G_ok _ _ _ _) rfl [0, 0, 0, 0, 8, 0, 0, 64, 224, 480, 0, 0, 3072, 7168, 16355, 32739, 65535, 131071] [16, 1, 1] rfl rfl ?_ | refine AWP.block ?_ | refine AWP.cond rfl ?_ | refine AWP.ret ?_ | refine AWP.skip ?_ | refine AWP.exit ?_ | refine AWP.label ?_ | refine AWP.goto ?_ | (refine Br (fun h => ?_) (fun h => ?_) <;> try (exfalso; simp only [decide_eq_true_eq, decide_eq_false_iff_not, beq_iff_eq, beq_eq_false_iff_ne, bne_iff_ne, bne_eq_false_iff_eq, ne_eq, List.length_map, List.length_append, List.length_cons, List.length_nil] at *; omega)))
        all_goals (try conv => whnf)
        refine ⟨b1, ?_⟩
        repeat' ((try conv => whnf); with_reducible first | refine AWP.seq ?_ | refine AWP.region (G_ok _ _ _ _) rfl ?_ | refine AWP.draw (G_ok _ _ _ _) rfl [0, 0, 3, 7, 15, 15, 15, 111, 239, 15, 15, 1039, 3599, 7695, 16383, 32767, 65535] [2, 1, 1, 10, 1, 1, 1] rfl rfl ?_ | refine AWP.draw (G_ok _ _ _ _) rfl [0, 0, 0, 0, 8, 0, 0, 64, 224, 480, 0, 0, 3072, 7168, 16355, 32739, 65535, 131071] [16, 1, 1] rfl rfl ?_ | refine AWP.block ?_ | refine AWP.cond rfl ?_ | refine AWP.ret ?_ | refine AWP.skip ?_ | refine AWP.exit ?_ | refine AWP.label ?_ | refine AWP.goto ?_ | (refine Br (fun h => ?_) (fun h => ?_) <;> try (exfalso; simp only [decide_eq_true_eq, decide_eq_false_iff_not, beq_iff_eq, beq_eq_false_iff_ne, bne_iff_ne, bne_eq_false_iff_eq, ne_eq, List.length_map, List.length_append, List.length_cons, List.length_nil] at *; omega)))
        all_goals (try conv => whnf)
        refine ⟨by rw [hrl]; omega, ?_⟩
        repeat' ((try conv => whnf); with_reducible first | refine AWP.seq ?_ | refine AWP.region (G_ok _ _ _ _) rfl ?_ | refine AWP.draw (G_ok _ _ _ _) rfl [0, 0, 3, 7, 15, 15, 15, 111, 239, 15, 15, 1039, 3599, 7695, 16383, 32767, 65535] [2, 1, 1, 10, 1, 1, 1] rfl rfl ?_ | refine AWP.draw (G_ok _ _ _ _) rfl [0, 0, 0, 0, 8, 0, 0, 64, 224, 480, 0, 0, 3072, 7168, 16355, 32739, 65535, 131071] [16, 1, 1] rfl rfl ?_ | refine AWP.block ?_ | refine AWP.cond rfl ?_ | refine AWP.ret ?_ | refine AWP.skip ?_ | refine AWP.exit ?_ | refine AWP.label ?_ | refine AWP.goto ?_ | (refine Br (fun h => ?_) (fun h => ?_) <;> try (exfalso; simp only [decide_eq_true_eq, decide_eq_false_iff_not, beq_iff_eq, beq_eq_false_iff_ne, bne_iff_ne, bne_eq_false_iff_eq, ne_eq, List.length_map, List.length_append, List.length_cons, List.length_nil] at *; omega)))
        all_goals (try conv => whnf)
        refine ⟨by rw [hw, List.length_set, hrl]; omega, ?_⟩
        repeat' ((try conv => whnf); with_reducible first | refine AWP.seq ?_ | refine AWP.region (G_ok _ _ _ _) rfl ?_ | refine AWP.draw (G_ok _ _ _ _) rfl [0, 0, 3, 7, 15, 15, 15, 111, 239, 15, 15, 1039, 3599, 7695, 16383, 32767, 65535] [2, 1, 1, 10, 1, 1, 1] rfl rfl ?_ | refine AWP.draw (G_ok _ _ _ _) rfl [0, 0, 0, 0, 8, 0, 0, 64, 224, 480, 0, 0, 3072, 7168, 16355, 32739, 65535, 131071] [16, 1, 1] rfl rfl ?_ | refine AWP.block ?_ | refine AWP.cond rfl ?_ | refine AWP.ret ?_ | refine AWP.skip ?_ | refine AWP.exit ?_ | refine AWP.label ?_ | refine AWP.goto ?_ | (refine Br (fun h => ?_) (fun h => ?_) <;> try (exfalso; simp only [decide_eq_true_eq, decide_eq_false_iff_not, beq_iff_eq, beq_eq_false_iff_ne, bne_iff_ne, bne_eq_false_iff_eq, ne_eq, List.length_map, List.length_append, List.length_cons, List.length_nil] at *; omega)))
        all_goals (try conv => whnf)
        refine ⟨by rw [hw, List.length_set, hrl]; omega, ?_⟩
        repeat' ((try conv => whnf); with_reducible first | refine AWP.seq ?_ | refine AWP.region (G_ok _ _ _ _) rfl ?_ | refine AWP.draw (G_ok _ _ _ _) rfl [0, 0, 3, 7, 15, 15, 15, 111, 239, 15, 15, 1039, 3599, 7695, 16383, 32767, 65535] [2, 1, 1, 10, 1, 1, 1] rfl rfl ?_ | refine AWP.draw (G_ok _ _ _ _) rfl [0, 0, 0, 0, 8, 0, 0, 64, 224, 480, 0, 0, 3072, 7168, 16355, 32739, 65535, 131071] [16, 1, 1] rfl rfl ?_ | refine AWP.block ?_ | refine AWP.cond rfl ?_ | refine AWP.ret ?_ | refine AWP.skip ?_ | refine AWP.exit ?_ | refine AWP.label ?_ | refine AWP.goto ?_ | (refine Br (fun h => ?_) (fun h => ?_) <;> try (exfalso; simp only [decide_eq_true_eq, decide_eq_false_iff_not, beq_iff_eq, beq_eq_false_iff_ne, bne_iff_ne, bne_eq_false_iff_eq, ne_eq, List.length_map, List.length_append, List.length_cons, List.length_nil] at *; omega)))
        all_goals (try conv => whnf)
        refine ⟨L'.length, by simp, L', y :: R, rfl, by rw [hLR]; simp, by rw [hins, ins_snoc, if_pos h]; simp, ⟨rfl, rfl, rfl, rfl, rfl, ?_, trivial⟩, ⟨?_, trivial⟩⟩
        · show PV.s (.int .i64 (IntKind.i64.wrap (((W.length + 1 : Nat) : Int) - 1))) = _
          rw [hw, hWl]
        · show some (Row.row 6 (List.set (List.set ((W ++ y :: x :: T).map Tm.enc) (((W.length + 1 : Nat) : Int).toNat) y.cells) (IntKind.i64.wrap (((W.length + 1 : Nat) : Int) - 1)).toNat x.cells)) = _
          rw [hw, hT, hW]
          have e3 : ∀ (P : List (List PV)) (a b a' b' : List PV) Q (n : Nat), n = P.length → List.set (List.set (P ++ a :: b :: Q) (n + 1) b') n a' = P ++ a' :: b' :: Q := fun P a b a' b' Q n hn => by
            subst hn
            rw [List.set_append_right _ _ (by omega), List.set_append_right _ _ (by omega)]
            simp
          rw [Int.toNat_natCast, Int.toNat_natCast, List.map_append, List.map_cons, List.map_cons, e3 _ _ _ _ _ _ _ (by simp)]
          simp [Tm.enc_eq]
      · simp at h
        refine ⟨S.length - (k + 1), by omega, k + 1, rfl, by omega, .inl (by omega), ⟨rfl, rfl, rfl, rfl, ?_, trivial⟩, ⟨?_, trivial⟩⟩
        · show PV.s (.int .i64 (IntKind.i64.wrap (((A.length + k : Nat) : Int) + 1))) = _
          rw [hb1 _ (by omega), Nat.add_assoc]
        · show some (Row.row 6 ((W ++ y :: x :: T).map Tm.enc)) = _
          rw [htake, isort_snoc, hins, ins_snoc, if_neg (by omega), hT, hW]
          simp
  · simp at h
    refine handsRowN rfl ?_ rfl
    have e1 : S.take k = S := List.take_of_length_le (by omega)
    have e2 : S.drop k = [] := List.drop_eq_nil_of_le (by omega)
    rw [e1, e2]
    simp
end Go.Vai

/- Sorting few. No condition. -/
namespace Go.Vai
open Go.Proofs

theorem stable_few (g : Nat) (cmp : Tm → Tm → Int) (S : List Tm) (hg : ∀ x ∈ S, ∀ y ∈ S, Snd g [x.pv, y.pv] [iv (cmp x y)]) (hl : S.length < 20) :
    SoundAt Try.prog 81 [.xs 0 none, iv S.length, fnv g] [.row 6 (S.map Tm.enc)] (tupOf []) [.row 6 ((isort cmp S).map Tm.enc)] := by
  refine sound_fn (Γ := G 63 (fun k => Nat.beq k 101) (fun _ => false) (fun _ => false)) (G_ok _ _ _ _) false Try.func81 rfl (by decide) rfl (Nat.le_of_ble_eq_true rfl) (Nat.le_refl _) (Nat.le_of_ble_eq_true rfl) (fun k hk => by cases hk) ?_
  repeat' ((try conv => whnf); with_reducible first | refine AWP.seq ?_ | refine AWP.region (G_ok _ _ _ _) rfl ?_ | refine AWP.block ?_ | refine AWP.cond rfl ?_ | refine AWP.ret ?_ | refine AWP.skip ?_ | refine AWP.exit ?_ | refine AWP.label ?_ | refine AWP.goto ?_ | refine Br (fun h => ?_) (fun h => ?_))
  all_goals (try conv => whnf)
  refine AWP.loop (fun m st => Has st [(0, .xs 0 none), (1, iv S.length), (2, fnv g), (6, iv 20), (7, iv 0), (8, iv 20)] [(0, .row 6 (S.map Tm.enc))]) 0 ?_ ?_
  · exact ⟨⟨rfl, rfl, rfl, rfl, rfl, rfl, trivial⟩, ⟨rfl, trivial⟩⟩
  rintro m st hst
  obtain ⟨f, H, rfl⟩ := hst.canon
  repeat' ((try conv => whnf); with_reducible first | refine AWP.seq ?_ | refine AWP.region (G_ok _ _ _ _) rfl ?_ | refine AWP.block ?_ | refine AWP.cond rfl ?_ | refine AWP.ret ?_ | refine AWP.skip ?_ | refine AWP.exit ?_ | refine AWP.label ?_ | refine AWP.goto ?_ | (refine Br (fun h => ?_) (fun h => ?_) <;> try (exfalso; simp only [decide_eq_true_eq, decide_eq_false_iff_not, beq_iff_eq, beq_eq_false_iff_ne, bne_iff_ne, bne_eq_false_iff_eq, ne_eq, List.length_map, List.length_append, List.length_cons, List.length_nil] at *; omega)))
  all_goals (try conv => whnf)
  have hi := insertion_ok g cmp [] S [] hg (by simp; omega)
  simp only [List.nil_append, List.append_nil, List.length_nil, Nat.zero_add] at hi
  refine ⟨[0], [.xs 0 none, iv 0, iv S.length, fnv g], [.row 6 (S.map Tm.enc)], .tup [], [.row 6 ((isort cmp S).map Tm.enc)], ⟨rfl, rfl, rfl, ⟨rfl, trivial⟩, rfl, rfl, rfl, rfl, rfl⟩, hi, ?_⟩
  repeat' ((try conv => whnf); with_reducible first | refine AWP.seq ?_ | refine AWP.region (G_ok _ _ _ _) rfl ?_ | refine AWP.block ?_ | refine AWP.cond rfl ?_ | refine AWP.ret ?_ | refine AWP.skip ?_ | refine AWP.exit ?_ | refine AWP.label ?_ | refine AWP.goto ?_ | refine Br (fun h => ?_) (fun h => ?_))
  all_goals (try conv => whnf)
  refine AWP.loop (fun m st => Has st [(0, .xs 0 none), (1, iv S.length), (6, iv 20)] [(0, .row 6 ((isort cmp S).map Tm.enc))]) 0 ?_ ?_
  · exact ⟨⟨rfl, rfl, rfl, trivial⟩, ⟨rfl, trivial⟩⟩
  rintro m st hst
  obtain ⟨f, H, rfl⟩ := hst.canon
  repeat' ((try conv => whnf); with_reducible first | refine AWP.seq ?_ | refine AWP.region (G_ok _ _ _ _) rfl ?_ | refine AWP.block ?_ | refine AWP.cond rfl ?_ | refine AWP.ret ?_ | refine AWP.skip ?_ | refine AWP.exit ?_ | refine AWP.label ?_ | refine AWP.goto ?_ | (refine Br (fun h => ?_) (fun h => ?_) <;> try (exfalso; simp only [decide_eq_true_eq, decide_eq_false_iff_not, beq_iff_eq, beq_eq_false_iff_ne, bne_iff_ne, bne_eq_false_iff_eq, ne_eq, List.length_map, List.length_append, List.length_cons, List.length_nil] at *; omega)))
  all_goals (try conv => whnf)
  exact handsRowN rfl rfl rfl

/-- What SortStableFunc comes to. -/
def StableOk (g : Nat) (cmp : Tm → Tm → Int) (S : List Tm) : Prop := SoundAt Try.prog 81 [.xs 0 none, iv S.length, fnv g] [.row 6 (S.map Tm.enc)] (tupOf []) [.row 6 ((isort cmp S).map Tm.enc)]

theorem sortStable_ok (g : Nat) (cmp : Tm → Tm → Int) (S : List Tm) (hs : StableOk g cmp S) :
    SoundAt Try.prog 52 [.xs 0 none, fnv g] [.row 6 (S.map Tm.enc)] (tupOf []) [.row 6 ((isort cmp S).map Tm.enc)] := by
  refine sound_fn (Γ := G 9 (fun k => Nat.beq k 81) (fun _ => false) (fun _ => false)) (G_ok _ _ _ _) false Try.func52 rfl (by decide) rfl (Nat.le_of_ble_eq_true rfl) (Nat.le_refl _) (Nat.le_of_ble_eq_true rfl) (fun k hk => by cases hk) ?_
  repeat' ((try conv => whnf); with_reducible first | refine AWP.seq ?_ | refine AWP.region (G_ok _ _ _ _) rfl ?_ | refine AWP.block ?_ | refine AWP.cond rfl ?_ | refine AWP.ret ?_ | refine AWP.skip ?_ | refine AWP.exit ?_ | refine AWP.label ?_ | refine AWP.goto ?_ | refine Br (fun h => ?_) (fun h => ?_))
  all_goals (try conv => whnf)
  refine ⟨[0], [.xs 0 none, iv S.length, fnv g], [.row 6 (S.map Tm.enc)], .tup [], [.row 6 ((isort cmp S).map Tm.enc)], ⟨?_, rfl, rfl, ⟨rfl, trivial⟩, rfl, rfl, rfl, rfl, rfl⟩, hs, ?_⟩
  · show [_, iv (S.map Tm.enc).length, _] = _
    rw [List.length_map]
    rfl
  repeat' ((try conv => whnf); with_reducible first | refine AWP.seq ?_ | refine AWP.region (G_ok _ _ _ _) rfl ?_ | refine AWP.block ?_ | refine AWP.cond rfl ?_ | refine AWP.ret ?_ | refine AWP.skip ?_ | refine AWP.exit ?_ | refine AWP.label ?_ | refine AWP.goto ?_ | refine Br (fun h => ?_) (fun h => ?_))
  all_goals (try conv => whnf)
  exact handsRowN rfl rfl rfl

end Go.Vai

/- The order's Sort. No condition. -/
namespace Go.Vai
open Go.Proofs

theorem insertion_nil (g : Nat) : Snd 101 [tsv [], iv 0, iv 0, fnv g] [] := by
  refine sound_pure (Γ := G 53 (fun _ => false) (fun _ => false) (fun _ => false)) (G_ok _ _ _ _) Try.func101 rfl (by decide) rfl rfl rfl ?_
  repeat' ((try conv => whnf); with_reducible first | refine AWP.seq ?_ | refine AWP.region (G_ok _ _ _ _) rfl ?_ | refine AWP.draw (G_ok _ _ _ _) rfl [0, 0, 3, 7, 15, 15, 15, 111, 239, 15, 15, 1039, 3599, 7695, 16383, 32767, 65535] [2, 1, 1, 10, 1, 1, 1] rfl rfl ?_ | refine AWP.draw (G_ok _ _ _ _) rfl [0, 0, 0, 0, 8, 0, 0, 64, 224, 480, 0, 0, 3072, 7168, 16355, 32739, 65535, 131071] [16, 1, 1] rfl rfl ?_ | refine AWP.block ?_ | refine AWP.cond rfl ?_ | refine AWP.ret ?_ | refine AWP.skip ?_ | refine AWP.exit ?_ | refine AWP.label ?_ | refine AWP.goto ?_ | refine Br (fun h => ?_) (fun h => ?_))
  all_goals (try conv => whnf)
  refine AWP.loop (fun m st => Has st [(2, iv 0), (8, iv 1)] []) 0 ?_ ?_
  · exact ⟨⟨rfl, rfl, trivial⟩, trivial⟩
  rintro m st hst
  obtain ⟨f, H, rfl⟩ := hst.canon
  repeat' ((try conv => whnf); with_reducible first | refine AWP.seq ?_ | refine AWP.region (G_ok _ _ _ _) rfl ?_ | refine AWP.draw (G_ok _ _ _ _) rfl [0, 0, 3, 7, 15, 15, 15, 111, 239, 15, 15, 1039, 3599, 7695, 16383, 32767, 65535] [2, 1, 1, 10, 1, 1, 1] rfl rfl ?_ | refine AWP.draw (G_ok _ _ _ _) rfl [0, 0, 0, 0, 8, 0, 0, 64, 224, 480, 0, 0, 3072, 7168, 16355, 32739, 65535, 131071] [16, 1, 1] rfl rfl ?_ | refine AWP.block ?_ | refine AWP.cond rfl ?_ | refine AWP.ret ?_ | refine AWP.skip ?_ | refine AWP.exit ?_ | refine AWP.label ?_ | refine AWP.goto ?_ | (refine Br (fun h => ?_) (fun h => ?_) <;> try (exfalso; simp only [decide_eq_true_eq, decide_eq_false_iff_not, beq_iff_eq, beq_eq_false_iff_ne, bne_iff_ne, bne_eq_false_iff_eq, ne_eq, List.length_map, List.length_append, List.length_cons, List.length_nil] at *; omega)))
  all_goals (try conv => whnf)
  exact hands0 rfl rfl
theorem stable_nil (g : Nat) : Snd 81 [tsv [], iv 0, fnv g] [] := by
  refine sound_pure (Γ := G 63 (fun _ => false) (fun _ => false) (fun _ => false)) (G_ok _ _ _ _) Try.func81 rfl (by decide) rfl rfl rfl ?_
  repeat' ((try conv => whnf); with_reducible first | refine AWP.seq ?_ | refine AWP.region (G_ok _ _ _ _) rfl ?_ | refine AWP.block ?_ | refine AWP.cond rfl ?_ | refine AWP.ret ?_ | refine AWP.skip ?_ | refine AWP.exit ?_ | refine AWP.label ?_ | refine AWP.goto ?_ | refine Br (fun h => ?_) (fun h => ?_))
  all_goals (try conv => whnf)
  refine AWP.loop (fun m st => Has st [(0, tsv []), (1, iv 0), (2, fnv g), (6, iv 20), (7, iv 0), (8, iv 20)] []) 0 ?_ ?_
  · exact ⟨⟨rfl, rfl, rfl, rfl, rfl, rfl, trivial⟩, trivial⟩
  rintro m st hst
  obtain ⟨f, H, rfl⟩ := hst.canon
  repeat' ((try conv => whnf); with_reducible first | refine AWP.seq ?_ | refine AWP.region (G_ok _ _ _ _) rfl ?_ | refine AWP.block ?_ | refine AWP.cond rfl ?_ | refine AWP.ret ?_ | refine AWP.skip ?_ | refine AWP.exit ?_ | refine AWP.label ?_ | refine AWP.goto ?_ | (refine Br (fun h => ?_) (fun h => ?_) <;> try (exfalso; simp only [decide_eq_true_eq, decide_eq_false_iff_not, beq_iff_eq, beq_eq_false_iff_ne, bne_iff_ne, bne_eq_false_iff_eq, ne_eq, List.length_map, List.length_append, List.length_cons, List.length_nil] at *; omega)))
  all_goals (try conv => whnf)
  refine ⟨_, _, insertion_nil g, ?_⟩
  repeat' ((try conv => whnf); with_reducible first | refine AWP.seq ?_ | refine AWP.region (G_ok _ _ _ _) rfl ?_ | refine AWP.block ?_ | refine AWP.cond rfl ?_ | refine AWP.ret ?_ | refine AWP.skip ?_ | refine AWP.exit ?_ | refine AWP.label ?_ | refine AWP.goto ?_ | refine Br (fun h => ?_) (fun h => ?_))
  all_goals (try conv => whnf)
  refine AWP.loop (fun m st => Has st [(1, iv 0), (6, iv 20)] []) 0 ?_ ?_
  · exact ⟨⟨rfl, rfl, trivial⟩, trivial⟩
  rintro m st hst
  obtain ⟨f, H, rfl⟩ := hst.canon
  repeat' ((try conv => whnf); with_reducible first | refine AWP.seq ?_ | refine AWP.region (G_ok _ _ _ _) rfl ?_ | refine AWP.block ?_ | refine AWP.cond rfl ?_ | refine AWP.ret ?_ | refine AWP.skip ?_ | refine AWP.exit ?_ | refine AWP.label ?_ | refine AWP.goto ?_ | (refine Br (fun h => ?_) (fun h => ?_) <;> try (exfalso; simp only [decide_eq_true_eq, decide_eq_false_iff_not, beq_iff_eq, beq_eq_false_iff_ne, bne_iff_ne, bne_eq_false_iff_eq, ne_eq, List.length_map, List.length_append, List.length_cons, List.length_nil] at *; omega)))
  all_goals (try conv => whnf)
  exact hands0 rfl rfl
theorem sortStable_nil (g : Nat) : Snd 52 [tsv [], fnv g] [] := by
  refine sound_pure (Γ := G 9 (fun _ => false) (fun _ => false) (fun _ => false)) (G_ok _ _ _ _) Try.func52 rfl (by decide) rfl rfl rfl ?_
  repeat' ((try conv => whnf); with_reducible first | refine AWP.seq ?_ | refine AWP.region (G_ok _ _ _ _) rfl ?_ | refine AWP.block ?_ | refine AWP.cond rfl ?_ | refine AWP.ret ?_ | refine AWP.skip ?_ | refine AWP.exit ?_ | refine AWP.label ?_ | refine AWP.goto ?_ | refine Br (fun h => ?_) (fun h => ?_))
  refine ⟨_, _, stable_nil g, ?_⟩
  repeat' ((try conv => whnf); with_reducible first | refine AWP.seq ?_ | refine AWP.region (G_ok _ _ _ _) rfl ?_ | refine AWP.block ?_ | refine AWP.cond rfl ?_ | refine AWP.ret ?_ | refine AWP.skip ?_ | refine AWP.exit ?_ | refine AWP.label ?_ | refine AWP.goto ?_ | refine Br (fun h => ?_) (fun h => ?_))
  all_goals (try conv => whnf)
  exact hands0 rfl rfl

def keepP (l : List Tm) : List Tm := (l.filter (fun t => mayP t == 0)).map plainT
def sortP (l : List Tm) : List Tm := isort compareT (keepP l)
theorem keepP_snoc (l : List Tm) (t : Tm) : keepP (l ++ [t]) = if mayP t = 0 then keepP l ++ [plainT t] else keepP l := by
  unfold keepP
  by_cases h : mayP t = 0 <;> simp [h]
theorem keepP_length (l : List Tm) : (keepP l).length ≤ l.length := by
  unfold keepP
  rw [List.length_map]
  exact List.length_filter_le _ _

theorem osort_ok (l : List Tm) (hl : l.length ≤ 1000000) (hf : ∀ t ∈ l, t.Fit) (hs : StableOk 48 compareT (keepP l)) : Snd 29 [tsv l] [tsv (sortP l)] := by
  refine sound_pure (Γ := G 23 (fun k => Nat.beq k 52) (fun _ => false) (fun _ => false)) (G_ok _ _ _ _) Try.func29 rfl (by decide) rfl rfl rfl ?_
  repeat' ((try conv => whnf); with_reducible first | refine AWP.seq ?_ | refine AWP.region (G_ok _ _ _ _) rfl ?_ | refine AWP.block ?_ | refine AWP.cond rfl ?_ | refine AWP.ret ?_ | refine AWP.skip ?_ | refine AWP.exit ?_ | refine AWP.label ?_ | refine AWP.goto ?_ | refine Br (fun h => ?_) (fun h => ?_))
  all_goals (try conv => whnf)
  refine AWP.loop (fun m st => ∃ j : Nat, m = l.length - j ∧ j ≤ l.length ∧ ((keepP (l.take j) = [] ∧ Has st [(3, .slc 6 [] true), (6, tsv l), (7, iv (l.map Tm.enc).length), (8, iv j)] []) ∨
    Has st [(3, .xs 118 none), (6, tsv l), (7, iv (l.map Tm.enc).length), (8, iv j)] [(118, .row 6 ((keepP (l.take j)).map Tm.enc))])) l.length ?_ ?_
  · exact ⟨0, rfl, Nat.zero_le _, .inl ⟨rfl, ⟨rfl, rfl, rfl, rfl, trivial⟩, trivial⟩⟩
  rintro m st ⟨j, rfl, hj, h2⟩
  have hw : j < l.length → IntKind.i64.wrap ((j : Int) + 1) = ((j + 1 : Nat) : Int) := fun _ => i64_of (by omega) (by omega)
  have htk : ∀ h : j < l.length, l.take (j + 1) = l.take j ++ [l[j]] := fun h => List.take_succ_eq_append_getElem h
  rcases h2 with ⟨hk, hst⟩ | hst
  · obtain ⟨f, H, rfl⟩ := hst.canon
    repeat' ((try conv => whnf); with_reducible first | refine AWP.seq ?_ | refine AWP.region (G_ok _ _ _ _) rfl ?_ | refine AWP.block ?_ | refine AWP.cond rfl ?_ | refine AWP.ret ?_ | refine AWP.skip ?_ | refine AWP.exit ?_ | refine AWP.label ?_ | refine AWP.goto ?_ | (refine Br (fun h => ?_) (fun h => ?_) <;> try (exfalso; simp only [decide_eq_true_eq, decide_eq_false_iff_not, beq_iff_eq, beq_eq_false_iff_ne, bne_iff_ne, bne_eq_false_iff_eq, ne_eq, List.length_map, List.length_append, List.length_cons, List.length_nil] at *; omega)))
    all_goals (try conv => whnf)
    · simp at h
      have hmem : l[j] ∈ l := List.getElem_mem h
      refine ⟨by omega, (l[j]).cells, by simp [h, Tm.enc_eq], ?_⟩
      repeat' ((try conv => whnf); with_reducible first | refine AWP.seq ?_ | refine AWP.region (G_ok _ _ _ _) rfl ?_ | refine AWP.block ?_ | refine AWP.cond rfl ?_ | refine AWP.ret ?_ | refine AWP.skip ?_ | refine AWP.exit ?_ | refine AWP.label ?_ | refine AWP.goto ?_ | refine Br (fun h => ?_) (fun h => ?_))
      refine ⟨_, _, omay_ok l[j] (hf _ hmem), ?_⟩
      repeat' ((try conv => whnf); with_reducible first | refine AWP.seq ?_ | refine AWP.region (G_ok _ _ _ _) rfl ?_ | refine AWP.block ?_ | refine AWP.cond rfl ?_ | refine AWP.ret ?_ | refine AWP.skip ?_ | refine AWP.exit ?_ | refine AWP.label ?_ | refine AWP.goto ?_ | refine Br (fun h => ?_) (fun h => ?_))
      all_goals (try conv => whnf)
      · simp at h
        refine ⟨_, _, tplain_ok l[j] (hf _ hmem), ?_⟩
        repeat' ((try conv => whnf); with_reducible first | refine AWP.seq ?_ | refine AWP.region (G_ok _ _ _ _) rfl ?_ | refine AWP.block ?_ | refine AWP.cond rfl ?_ | refine AWP.ret ?_ | refine AWP.skip ?_ | refine AWP.exit ?_ | refine AWP.label ?_ | refine AWP.goto ?_ | refine Br (fun h => ?_) (fun h => ?_))
        all_goals (try conv => whnf)
        refine ⟨⟨oneE rfl, .inl rfl, Nat.le_of_ble_eq_true rfl⟩, ?_⟩
        repeat' ((try conv => whnf); with_reducible first | refine AWP.seq ?_ | refine AWP.region (G_ok _ _ _ _) rfl ?_ | refine AWP.block ?_ | refine AWP.cond rfl ?_ | refine AWP.ret ?_ | refine AWP.skip ?_ | refine AWP.exit ?_ | refine AWP.label ?_ | refine AWP.goto ?_ | refine Br (fun h => ?_) (fun h => ?_))
        all_goals (try conv => whnf)
        refine ⟨l.length - (j + 1), by omega, j + 1, rfl, by omega, .inr ⟨⟨rfl, rfl, rfl, ?_, trivial⟩, ⟨?_, trivial⟩⟩⟩
        · show PV.s (.int .i64 (IntKind.i64.wrap ((j : Int) + 1))) = _
          rw [hw (by omega)]
        · rw [htk (by omega), keepP_snoc, if_pos h, hk, List.nil_append, List.map_singleton, Tm.enc_eq]
          rfl
      · simp at h
        refine ⟨l.length - (j + 1), by omega, j + 1, rfl, by omega, .inl ⟨by rw [htk (by omega), keepP_snoc, if_neg h, hk], ⟨rfl, rfl, rfl, ?_, trivial⟩, trivial⟩⟩
        show PV.s (.int .i64 (IntKind.i64.wrap ((j : Int) + 1))) = _
        rw [hw (by omega)]
    · simp at h
      have hjl : j = l.length := by omega
      subst hjl
      rw [List.take_length] at hk
      refine ⟨[], [tsv [], fnv 48], [], .tup [], [], ⟨rfl, rfl, rfl, trivial, rfl, rfl, rfl, rfl, rfl⟩, sortStable_nil _, ?_⟩
      repeat' ((try conv => whnf); with_reducible first | refine AWP.seq ?_ | refine AWP.region (G_ok _ _ _ _) rfl ?_ | refine AWP.block ?_ | refine AWP.cond rfl ?_ | refine AWP.ret ?_ | refine AWP.skip ?_ | refine AWP.exit ?_ | refine AWP.label ?_ | refine AWP.goto ?_ | refine Br (fun h => ?_) (fun h => ?_))
      all_goals (try conv => whnf)
      rw [sortP, hk]
      exact hands0 rfl rfl
  · obtain ⟨f, H, rfl⟩ := hst.canon
    repeat' ((try conv => whnf); with_reducible first | refine AWP.seq ?_ | refine AWP.region (G_ok _ _ _ _) rfl ?_ | refine AWP.block ?_ | refine AWP.cond rfl ?_ | refine AWP.ret ?_ | refine AWP.skip ?_ | refine AWP.exit ?_ | refine AWP.label ?_ | refine AWP.goto ?_ | (refine Br (fun h => ?_) (fun h => ?_) <;> try (exfalso; simp only [decide_eq_true_eq, decide_eq_false_iff_not, beq_iff_eq, beq_eq_false_iff_ne, bne_iff_ne, bne_eq_false_iff_eq, ne_eq, List.length_map, List.length_append, List.length_cons, List.length_nil] at *; omega)))
    all_goals (try conv => whnf)
    · simp at h
      have hmem : l[j] ∈ l := List.getElem_mem h
      refine ⟨by omega, (l[j]).cells, by simp [h, Tm.enc_eq], ?_⟩
      repeat' ((try conv => whnf); with_reducible first | refine AWP.seq ?_ | refine AWP.region (G_ok _ _ _ _) rfl ?_ | refine AWP.block ?_ | refine AWP.cond rfl ?_ | refine AWP.ret ?_ | refine AWP.skip ?_ | refine AWP.exit ?_ | refine AWP.label ?_ | refine AWP.goto ?_ | refine Br (fun h => ?_) (fun h => ?_))
      refine ⟨_, _, omay_ok l[j] (hf _ hmem), ?_⟩
      repeat' ((try conv => whnf); with_reducible first | refine AWP.seq ?_ | refine AWP.region (G_ok _ _ _ _) rfl ?_ | refine AWP.block ?_ | refine AWP.cond rfl ?_ | refine AWP.ret ?_ | refine AWP.skip ?_ | refine AWP.exit ?_ | refine AWP.label ?_ | refine AWP.goto ?_ | refine Br (fun h => ?_) (fun h => ?_))
      all_goals (try conv => whnf)
      · simp at h
        refine ⟨_, _, tplain_ok l[j] (hf _ hmem), ?_⟩
        repeat' ((try conv => whnf); with_reducible first | refine AWP.seq ?_ | refine AWP.region (G_ok _ _ _ _) rfl ?_ | refine AWP.block ?_ | refine AWP.cond rfl ?_ | refine AWP.ret ?_ | refine AWP.skip ?_ | refine AWP.exit ?_ | refine AWP.label ?_ | refine AWP.goto ?_ | refine Br (fun h => ?_) (fun h => ?_))
        all_goals (try conv => whnf)
        refine ⟨⟨oneE rfl, ?_⟩, ?_⟩
        · show ((keepP (l.take j)).map Tm.enc).length + 1 ≤ 1073741824
          have := keepP_length (l.take j)
          simp at this ⊢
          omega
        repeat' ((try conv => whnf); with_reducible first | refine AWP.seq ?_ | refine AWP.region (G_ok _ _ _ _) rfl ?_ | refine AWP.block ?_ | refine AWP.cond rfl ?_ | refine AWP.ret ?_ | refine AWP.skip ?_ | refine AWP.exit ?_ | refine AWP.label ?_ | refine AWP.goto ?_ | refine Br (fun h => ?_) (fun h => ?_))
        all_goals (try conv => whnf)
        refine ⟨l.length - (j + 1), by omega, j + 1, rfl, by omega, .inr ⟨⟨rfl, rfl, rfl, ?_, trivial⟩, ⟨?_, trivial⟩⟩⟩
        · show PV.s (.int .i64 (IntKind.i64.wrap ((j : Int) + 1))) = _
          rw [hw (by omega)]
        · show some (Row.row 6 (appE ((keepP (l.take j)).map Tm.enc) [(plainT l[j]).cells])) = _
          rw [appE_eq, htk (by omega), keepP_snoc, if_pos h, List.map_append, List.map_singleton, Tm.enc_eq]
      · simp at h
        refine ⟨l.length - (j + 1), by omega, j + 1, rfl, by omega, .inr ⟨⟨rfl, rfl, rfl, ?_, trivial⟩, ⟨?_, trivial⟩⟩⟩
        · show PV.s (.int .i64 (IntKind.i64.wrap ((j : Int) + 1))) = _
          rw [hw (by omega)]
        · rw [htk (by omega), keepP_snoc, if_neg h]; rfl
    · simp at h
      have hjl : j = l.length := by omega
      subst hjl
      refine ⟨[118], [.xs 0 none, fnv 48], [.row 6 ((keepP l).map Tm.enc)], .tup [], [.row 6 ((sortP l).map Tm.enc)], ⟨rfl, rfl, rfl, ⟨?_, trivial⟩, rfl, rfl, rfl, rfl, rfl⟩, sortStable_ok _ _ _ hs, ?_⟩
      · show some (Row.row 6 ((keepP (l.take l.length)).map Tm.enc)) = _
        rw [List.take_length]; rfl
      repeat' ((try conv => whnf); with_reducible first | refine AWP.seq ?_ | refine AWP.region (G_ok _ _ _ _) rfl ?_ | refine AWP.block ?_ | refine AWP.cond rfl ?_ | refine AWP.ret ?_ | refine AWP.skip ?_ | refine AWP.exit ?_ | refine AWP.label ?_ | refine AWP.goto ?_ | refine Br (fun h => ?_) (fun h => ?_))
      all_goals (try conv => whnf)
      exact hands0 rfl rfl

end Go.Vai

/- The order that every program must know. No condition. -/
namespace Go.Vai
open Go.Proofs

def sB (l : List UInt8) : ByteArray := ⟨l.toArray⟩
def aw0 : Tm := mkAtom (sB [98])
def aw1 : Tm := mkComp (sB [102]) [mkAtom (sB [97])]
def aw2 : Tm := mkInt 3
def aw3 : Tm := mkVar 0

theorem Fit.leaf (k : Int) (n : ByteArray) (i re im : Int) : (Tm.mk k n i re im []).Fit := .mk _ _ _ _ _ _ (Nat.zero_le _) (fun t h => by cases h)
theorem aw_may : mayP aw0 = 0 ∧ mayP aw1 = 0 ∧ mayP aw2 = 0 ∧ mayP aw3 = 0 := by
  refine ⟨?_, ?_, ?_, ?_⟩ <;> decide +kernel
theorem aw_plain : plainT aw0 = aw0 ∧ plainT aw1 = aw1 ∧ plainT aw2 = aw2 ∧ plainT aw3 = aw3 := by
  refine ⟨?_, ?_, ?_, ?_⟩ <;> (unfold plainT; simp only [aw_may, ne_eq, not_true_eq_false, if_false]; rfl)
theorem aw_sort : sortP [aw0, aw1, aw2, aw3] = [aw3, aw2, aw0, aw1] := by
  have : keepP [aw0, aw1, aw2, aw3] = [aw0, aw1, aw2, aw3] := by simp [keepP, aw_may, aw_plain]
  unfold sortP
  rw [this]
  rfl


theorem aw_fit : aw0.Fit ∧ aw1.Fit ∧ aw2.Fit ∧ aw3.Fit := by
  refine ⟨Fit.leaf _ _ _ _ _, .mk _ _ _ _ _ _ (by simp) (fun t h => ?_), Fit.leaf _ _ _ _ _, Fit.leaf _ _ _ _ _⟩
  simp at h
  subst h
  exact Fit.leaf _ _ _ _ _

theorem awake9_ok : Snd 24 [] [bv true] := by
  refine sound_pure (Γ := G 41 (fun _ => false) (fun _ => false) (fun _ => false)) (G_ok _ _ _ _) Try.func24 rfl (by decide) rfl rfl rfl ?_
  repeat' ((try conv => whnf); with_reducible first | refine AWP.seq ?_ | refine AWP.region (G_ok _ _ _ _) rfl ?_ | refine AWP.block ?_ | refine AWP.cond rfl ?_ | refine AWP.ret ?_ | refine AWP.skip ?_ | refine AWP.exit ?_ | refine AWP.label ?_ | refine AWP.goto ?_ | refine Br (fun h => ?_) (fun h => ?_))
  refine ⟨_, _, refAtom_ok _, ?_⟩
  repeat' ((try conv => whnf); with_reducible first | refine AWP.seq ?_ | refine AWP.region (G_ok _ _ _ _) rfl ?_ | refine AWP.block ?_ | refine AWP.cond rfl ?_ | refine AWP.ret ?_ | refine AWP.skip ?_ | refine AWP.exit ?_ | refine AWP.label ?_ | refine AWP.goto ?_ | refine Br (fun h => ?_) (fun h => ?_))
  refine ⟨_, _, refAtom_ok _, ?_⟩
  repeat' ((try conv => whnf); with_reducible first | refine AWP.seq ?_ | refine AWP.region (G_ok _ _ _ _) rfl ?_ | refine AWP.block ?_ | refine AWP.cond rfl ?_ | refine AWP.ret ?_ | refine AWP.skip ?_ | refine AWP.exit ?_ | refine AWP.label ?_ | refine AWP.goto ?_ | refine Br (fun h => ?_) (fun h => ?_))
  refine ⟨_, _, refComp_ok _ [mkAtom (sB [97])], ?_⟩
  repeat' ((try conv => whnf); with_reducible first | refine AWP.seq ?_ | refine AWP.region (G_ok _ _ _ _) rfl ?_ | refine AWP.block ?_ | refine AWP.cond rfl ?_ | refine AWP.ret ?_ | refine AWP.skip ?_ | refine AWP.exit ?_ | refine AWP.label ?_ | refine AWP.goto ?_ | refine Br (fun h => ?_) (fun h => ?_))
  refine ⟨_, _, refInt_ok _, ?_⟩
  repeat' ((try conv => whnf); with_reducible first | refine AWP.seq ?_ | refine AWP.region (G_ok _ _ _ _) rfl ?_ | refine AWP.block ?_ | refine AWP.cond rfl ?_ | refine AWP.ret ?_ | refine AWP.skip ?_ | refine AWP.exit ?_ | refine AWP.label ?_ | refine AWP.goto ?_ | refine Br (fun h => ?_) (fun h => ?_))
  refine ⟨_, _, refVar_ok _, ?_⟩
  repeat' ((try conv => whnf); with_reducible first | refine AWP.seq ?_ | refine AWP.region (G_ok _ _ _ _) rfl ?_ | refine AWP.block ?_ | refine AWP.cond rfl ?_ | refine AWP.ret ?_ | refine AWP.skip ?_ | refine AWP.exit ?_ | refine AWP.label ?_ | refine AWP.goto ?_ | refine Br (fun h => ?_) (fun h => ?_))
  have hk : keepP [aw0, aw1, aw2, aw3] = [aw0, aw1, aw2, aw3] := by simp [keepP, aw_may, aw_plain]
  have hs : StableOk 48 compareT (keepP [aw0, aw1, aw2, aw3]) := by
    rw [hk]
    refine stable_few _ _ _ (fun x hx y hy => compare_ok x y ?_ ?_) (by simp)
    · simp at hx
      obtain ⟨f0, f1, f2, f3⟩ := aw_fit
      rcases hx with rfl | rfl | rfl | rfl <;> assumption
    · simp at hy
      obtain ⟨f0, f1, f2, f3⟩ := aw_fit
      rcases hy with rfl | rfl | rfl | rfl <;> assumption
  have ho := osort_ok [aw0, aw1, aw2, aw3] (by simp) (fun t ht => by
    simp at ht
    obtain ⟨f0, f1, f2, f3⟩ := aw_fit
    rcases ht with rfl | rfl | rfl | rfl <;> assumption) hs
  rw [aw_sort] at ho
  refine ⟨_, _, ho, ?_⟩
  repeat' ((try conv => whnf); with_reducible first | refine AWP.seq ?_ | refine AWP.region (G_ok _ _ _ _) rfl ?_ | refine AWP.block ?_ | refine AWP.cond rfl ?_ | refine AWP.ret ?_ | refine AWP.skip ?_ | refine AWP.exit ?_ | refine AWP.label ?_ | refine AWP.goto ?_ | refine Br (fun h => ?_) (fun h => ?_))
  all_goals (try conv => whnf)
  refine ⟨Int.le_refl 0, aw3.cells, rfl, ?_⟩
  repeat' ((try conv => whnf); with_reducible first | refine AWP.seq ?_ | refine AWP.region (G_ok _ _ _ _) rfl ?_ | refine AWP.block ?_ | refine AWP.cond rfl ?_ | refine AWP.ret ?_ | refine AWP.skip ?_ | refine AWP.exit ?_ | refine AWP.label ?_ | refine AWP.goto ?_ | refine Br (fun h => ?_) (fun h => ?_))
  all_goals (try conv => whnf)
  refine ⟨by decide, aw2.cells, rfl, ?_⟩
  repeat' ((try conv => whnf); with_reducible first | refine AWP.seq ?_ | refine AWP.region (G_ok _ _ _ _) rfl ?_ | refine AWP.block ?_ | refine AWP.cond rfl ?_ | refine AWP.ret ?_ | refine AWP.skip ?_ | refine AWP.exit ?_ | refine AWP.label ?_ | refine AWP.goto ?_ | refine Br (fun h => ?_) (fun h => ?_))
  all_goals (try conv => whnf)
  refine ⟨by decide, aw0.cells, rfl, ?_⟩
  repeat' ((try conv => whnf); with_reducible first | refine AWP.seq ?_ | refine AWP.region (G_ok _ _ _ _) rfl ?_ | refine AWP.block ?_ | refine AWP.cond rfl ?_ | refine AWP.ret ?_ | refine AWP.skip ?_ | refine AWP.exit ?_ | refine AWP.label ?_ | refine AWP.goto ?_ | refine Br (fun h => ?_) (fun h => ?_))
  all_goals (try conv => whnf)
  · refine ⟨by decide, aw1.cells, rfl, ?_⟩
    repeat' ((try conv => whnf); with_reducible first | refine AWP.seq ?_ | refine AWP.region (G_ok _ _ _ _) rfl ?_ | refine AWP.block ?_ | refine AWP.cond rfl ?_ | refine AWP.ret ?_ | refine AWP.skip ?_ | refine AWP.exit ?_ | refine AWP.label ?_ | refine AWP.goto ?_ | refine Br (fun h => ?_) (fun h => ?_))
    all_goals (try conv => whnf)
    refine finB rfl ?_
    exact beq_self_eq_true (ByteArray.toList ⟨#[102]⟩)
  · have : (aw0.n.toList == (⟨#[98]⟩ : ByteArray).toList) = true := beq_self_eq_true (ByteArray.toList ⟨#[98]⟩)
    rw [this] at h
    cases h

end Go.Vai

/- The program's walk and the reference's come to the same. What is light is not too wide. No condition. -/
namespace Go.Vai
open Go.Proofs

def runL : List (Tm × Int) → Int × Int → Int × Int
  | [], s => s
  | (t, d) :: r, s => runL r (walkT t d s)
theorem walkT_err {t : Tm} {d : Int} {s : Int × Int} (h : s.2 ≠ 0) : walkT t d s = s := by rw [walkT_eq, if_pos h]
theorem runL_err : ∀ {l : List (Tm × Int)} {s : Int × Int}, s.2 ≠ 0 → runL l s = s
  | [], _, _ => rfl
  | (t, d) :: r, s, h => by rw [runL, walkT_err h, runL_err h]
theorem runL_append : ∀ (l r : List (Tm × Int)) (s : Int × Int), runL (l ++ r) s = runL r (runL l s)
  | [], _, _ => rfl
  | (t, d) :: l, r, s => by rw [List.cons_append, runL, runL, runL_append l r]
theorem walkL_run : ∀ (ts : List Tm) (d : Int) (s : Int × Int), walkL ts d s = runL (ts.map fun a => (a, d)) s
  | [], _, _ => rfl
  | t :: r, d, s => by rw [walkL, List.map_cons, runL, walkL_run r]

theorem walkS_eq : ∀ (left : Nat) (l : List (Tm × Int)) (dp : Int), left ≤ 2000 → (walkS left l dp).2.2 = (runL l (2000 - (left : Int), 0)).2 ∧ ((runL l (2000 - (left : Int), 0)).2 = 0 → (walkS left l dp).1 = (runL l (2000 - (left : Int), 0)).1)
  | left, [], dp, _ => by rw [walkS]; exact ⟨rfl, fun _ => rfl⟩
  | 0, (t, d) :: r, dp, _ => by
    have h : walkT t d (2000 - ((0 : Nat) : Int), 0) = (2000 - ((0 : Nat) : Int) + 1, 3) := by
      rw [walkT_eq, if_neg (by simp), if_pos (.inl (by simp))]
    rw [walkS, runL, h, runL_err (by simp)]
    exact ⟨rfl, fun h => by cases h⟩
  | left + 1, (t, d) :: r, dp, hl => by
    rw [walkS, runL]
    by_cases hd : d > 500
    · have h : walkT t d (2000 - ((left + 1 : Nat) : Int), 0) = (2000 - ((left + 1 : Nat) : Int) + 1, 3) := by
        rw [walkT_eq, if_neg (by simp), if_pos (.inr hd)]
      rw [if_pos hd, h, runL_err (by simp)]
      exact ⟨rfl, fun h => by cases h⟩
    · rw [if_neg hd]
      have h0 : walkT t d (2000 - ((left + 1 : Nat) : Int), 0) = if badT t then (2000 - ((left + 1 : Nat) : Int) + 1, 1) else if bigT t then (2000 - ((left + 1 : Nat) : Int) + 1, 3)
          else if t.k = 5 then walkL t.ts (d + 1) (2000 - ((left + 1 : Nat) : Int) + 1, 0) else (2000 - ((left + 1 : Nat) : Int) + 1, 0) := by
        rw [walkT_eq, if_neg (by simp), if_neg (by simp only; omega)]
      rw [h0]
      unfold oneT
      by_cases hb : badT t
      · rw [if_pos hb, if_pos (by simp), if_pos hb, runL_err (by simp)]
        exact ⟨rfl, fun h => by cases h⟩
      · rw [if_neg hb, if_neg hb]
        by_cases hg : bigT t
        · rw [if_pos hg, if_pos (by simp), if_pos hg, runL_err (by simp)]
          exact ⟨rfl, fun h => by cases h⟩
        · rw [if_neg hg, if_neg hg, if_neg (by simp)]
          have ih := walkS_eq left (kids t d ++ r) (if dp < d then d else dp) (by omega)
          have e : (2000 : Int) - ((left + 1 : Nat) : Int) + 1 = 2000 - (left : Int) := by omega
          rw [e]
          rw [runL_append] at ih
          have e2 : (if t.k = 5 then walkL t.ts (d + 1) (2000 - (left : Int), 0) else (2000 - (left : Int), 0)) = runL (kids t d) (2000 - (left : Int), 0) := by
            unfold kids
            split
            · rw [walkL_run]
            · rfl
          rw [e2]
          exact ih
theorem mayP_ref (t : Tm) : (walkT t 1 (0, 0)).2 = mayP t := ((walkS_eq 2000 [(t, 1)] 0 (by omega)).1).symm

mutual
theorem light_fit : ∀ (t : Tm) (d left : Int), 0 ≤ light t d left → t.Fit
  | .mk k n i re im ts, d, left, h => by
    rw [light_eq] at h
    split at h
    · exact absurd h (by decide)
    · rename_i h1
      have h2 : ts.length ≤ 60 := by
        have h3 : ¬ (Tm.mk k n i re im ts).ts.length > 60 := fun e => h1 (.inr (.inr (.inr e)))
        have h4 : ¬ ts.length > 60 := h3
        omega
      exact .mk _ _ _ _ _ _ (by omega) (lights_fit ts _ _ h)
theorem lights_fit : ∀ (ts : List Tm) (d left : Int), 0 ≤ lights ts d left → ∀ t ∈ ts, t.Fit
  | [], _, _, _, _, ht => by cases ht
  | u :: r, d, left, h, t, ht => by
    rw [lights] at h
    split at h
    · exact absurd h (by decide)
    · rename_i h1
      rcases List.mem_cons.1 ht with e | ht
      · rw [e]; exact light_fit u d left (by omega)
      · exact lights_fit r _ _ h t ht
end
theorem lightF_fit : ∀ (l : List Tm) (i : Nat) (left : Int), lightF l i left = true → ∀ t ∈ l, t.Fit
  | [], _, _, _, _, ht => by cases ht
  | u :: r, i, left, h, t, ht => by
    rw [lightF] at h
    split at h
    · cases h
    · rename_i h1
      rcases List.mem_cons.1 ht with rfl | ht
      · exact light_fit _ 1 left (by omega)
      · exact lightF_fit r _ _ h t ht

end Go.Vai
