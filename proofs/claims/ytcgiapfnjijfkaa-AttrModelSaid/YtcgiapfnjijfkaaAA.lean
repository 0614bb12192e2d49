/- Contracts of the functions of names and attributes, part 1. By an AI agent. -/
import Derived.Test.YtcgiapfnjijfkaaBmA
import Derived.Test.YtcgiapfnjijfkaaChecked
import Derived.Test.YtcgiapfnjijfkaaAmB
import Derived.Shelf.GgClosure.StringsIndexFunc
import Derived.Deep.LoopGhost
import Derived.WalkKit
import Derived.Laws.IdiomStrings
import Derived.IntWalk
import Derived.Outline
import Derived.Lib.Hide
import Derived.Lib.MapLaws
import Derived.Deep.RegionLaw
import Derived.Lib.SliceRun
import Derived.Laws.Tables
import Derived.Laws.CopyRow
import Derived.Sort.WalkB12
section
namespace Go.Proofs.Attr
open Go.Am
set_option maxRecDepth 100000
theorem g1 : TI.ok Try.prog 1 (.sc .nilFunc) := ⟨fun _ => by kernel_rfl, fun _ => by kernel_rfl, fun _ => by kernel_rfl⟩
theorem g2 : TI.ok Try.prog 2 (.sc (.int .i64 0)) := ⟨fun _ => by kernel_rfl, fun _ => by kernel_rfl, fun _ => by kernel_rfl⟩
theorem g3 : TI.ok Try.prog 3 (.sc (.int .i64 0)) := ⟨fun _ => by kernel_rfl, fun _ => by kernel_rfl, fun _ => by kernel_rfl⟩
theorem g4 : TI.ok Try.prog 4 (.bl) := ⟨fun _ => by kernel_rfl, fun _ => by kernel_rfl, fun _ => by kernel_rfl, by kernel_rfl⟩
theorem g5 : TI.ok Try.prog 5 (.sc (.int .u8 0)) := ⟨fun _ => by kernel_rfl, fun _ => by kernel_rfl, fun _ => by kernel_rfl⟩
theorem g9 : TI.ok Try.prog 9 (.str) := ⟨fun _ => by kernel_rfl, fun _ => by kernel_rfl, fun _ => by kernel_rfl, by kernel_rfl⟩
theorem g12 : TI.ok Try.prog 12 (.sc (.int .u64 0)) := ⟨fun _ => by kernel_rfl, fun _ => by kernel_rfl, fun _ => by kernel_rfl⟩
theorem g15 : TI.ok Try.prog 15 (.sc (.pointer none)) := ⟨fun _ => by kernel_rfl, fun _ => by kernel_rfl, fun _ => by kernel_rfl⟩
theorem g16 : TI.ok Try.prog 16 (.sc (.pointer none)) := ⟨fun _ => by kernel_rfl, fun _ => by kernel_rfl, fun _ => by kernel_rfl⟩
theorem g17 : TI.ok Try.prog 17 (.sc (.pointer none)) := ⟨fun _ => by kernel_rfl, fun _ => by kernel_rfl, fun _ => by kernel_rfl⟩
theorem g20 : TI.ok Try.prog 20 (.sc .nilIface) := ⟨fun _ => by kernel_rfl, fun _ => by kernel_rfl, fun _ => by kernel_rfl⟩
theorem g21 : TI.ok Try.prog 21 (.sc (.int .i32 0)) := ⟨fun _ => by kernel_rfl, fun _ => by kernel_rfl, fun _ => by kernel_rfl⟩
theorem g22 : TI.ok Try.prog 22 (.sl 41 2 32) := ⟨fun _ => by kernel_rfl, fun _ => by kernel_rfl, fun _ => by kernel_rfl, fun _ => by kernel_rfl, (Try.prog.info? 41).getD default, (.agg #[(.string ByteArray.empty), (.string ByteArray.empty)]), ⟨by kernel_rfl, by kernel_rfl, by kernel_rfl, by kernel_rfl, by kernel_rfl, by kernel_rfl⟩⟩
theorem g23 : TI.ok Try.prog 23 (.sc .nilFunc) := ⟨fun _ => by kernel_rfl, fun _ => by kernel_rfl, fun _ => by kernel_rfl⟩
theorem g24 : TI.ok Try.prog 24 (.sc .nilFunc) := ⟨fun _ => by kernel_rfl, fun _ => by kernel_rfl, fun _ => by kernel_rfl⟩
theorem g26 : TI.ok Try.prog 26 (.sc .nilFunc) := ⟨fun _ => by kernel_rfl, fun _ => by kernel_rfl, fun _ => by kernel_rfl⟩
theorem g27 : TI.ok Try.prog 27 (.sc (.int .i64 0)) := ⟨fun _ => by kernel_rfl, fun _ => by kernel_rfl, fun _ => by kernel_rfl⟩
theorem g29 : TI.ok Try.prog 29 (.sc .nilFunc) := ⟨fun _ => by kernel_rfl, fun _ => by kernel_rfl, fun _ => by kernel_rfl⟩
theorem g31 : TI.ok Try.prog 31 (.sc .nilFunc) := ⟨fun _ => by kernel_rfl, fun _ => by kernel_rfl, fun _ => by kernel_rfl⟩
theorem g33 : TI.ok Try.prog 33 (.sc .nilFunc) := ⟨fun _ => by kernel_rfl, fun _ => by kernel_rfl, fun _ => by kernel_rfl⟩
theorem g35 : TI.ok Try.prog 35 (.sc .nilFunc) := ⟨fun _ => by kernel_rfl, fun _ => by kernel_rfl, fun _ => by kernel_rfl⟩
theorem g37 : TI.ok Try.prog 37 (.sc .nilFunc) := ⟨fun _ => by kernel_rfl, fun _ => by kernel_rfl, fun _ => by kernel_rfl⟩
theorem g38 : TI.ok Try.prog 38 (.sc .nilFunc) := ⟨fun _ => by kernel_rfl, fun _ => by kernel_rfl, fun _ => by kernel_rfl⟩
theorem g39 : TI.ok Try.prog 39 (.sc .nilFunc) := ⟨fun _ => by kernel_rfl, fun _ => by kernel_rfl, fun _ => by kernel_rfl⟩
theorem g40 : TI.ok Try.prog 40 (.st 2 [(0, 9), (1, 9)] (Array.mk [(.string ByteArray.empty), (.string ByteArray.empty)]) [1, 1]) := ⟨fun _ => by kernel_rfl, fun _ => by kernel_rfl, fun _ => by kernel_rfl, (fun f off ft h => match f, h with | 0, h => by cases h; exact ⟨fun _ _ => by kernel_rfl, fun _ _ => by kernel_rfl⟩ | 1, h => by cases h; exact ⟨fun _ _ => by kernel_rfl, fun _ _ => by kernel_rfl⟩ | (_ + 2), h => by simp at h),
    TBuild.mk (places := #[(0, 1), (1, 1)]) Try.underlying40 (fun _ => by kernel_rfl) (fun _ => by kernel_rfl) (fun i => match i with | 0 => rfl | 1 => rfl | (_ + 2) => by simp)⟩
theorem g41 : TI.ok Try.prog 41 (.st 2 [(0, 9), (1, 9)] (Array.mk [(.string ByteArray.empty), (.string ByteArray.empty)]) [1, 1]) := ⟨fun _ => by kernel_rfl, fun _ => by kernel_rfl, fun _ => by kernel_rfl, (fun f off ft h => match f, h with | 0, h => by cases h; exact ⟨fun _ _ => by kernel_rfl, fun _ _ => by kernel_rfl⟩ | 1, h => by cases h; exact ⟨fun _ _ => by kernel_rfl, fun _ _ => by kernel_rfl⟩ | (_ + 2), h => by simp at h),
    TBuild.mk (places := #[(0, 1), (1, 1)]) Try.underlying41 (fun _ => by kernel_rfl) (fun _ => by kernel_rfl) (fun i => match i with | 0 => rfl | 1 => rfl | (_ + 2) => by simp)⟩
theorem g42 : TI.ok Try.prog 42 (.sc .nilFunc) := ⟨fun _ => by kernel_rfl, fun _ => by kernel_rfl, fun _ => by kernel_rfl⟩
theorem g43 : TI.ok Try.prog 43 (.sl 48 3 24) := ⟨fun _ => by kernel_rfl, fun _ => by kernel_rfl, fun _ => by kernel_rfl, fun _ => by kernel_rfl, (Try.prog.info? 48).getD default, (.agg #[(.int .u8 0), (.int .u8 0), (.string ByteArray.empty)]), ⟨by kernel_rfl, by kernel_rfl, by kernel_rfl, by kernel_rfl, by kernel_rfl, by kernel_rfl⟩⟩
theorem g44 : TI.ok Try.prog 44 (.ar 26 26 4 1 (Array.mk [(.bool false), (.bool false), (.bool false), (.bool false), (.bool false), (.bool false), (.bool false), (.bool false), (.bool false), (.bool false), (.bool false), (.bool false), (.bool false), (.bool false), (.bool false), (.bool false), (.bool false), (.bool false), (.bool false), (.bool false), (.bool false), (.bool false), (.bool false), (.bool false), (.bool false), (.bool false)])) := ⟨fun _ => by kernel_rfl, fun _ => by kernel_rfl, fun _ => by kernel_rfl, (by unfold TArray; kernel_rfl), fun _ => by kernel_rfl⟩
theorem g45 : TI.ok Try.prog 45 (.ar 26 26 9 1 (Array.mk [(.string ByteArray.empty), (.string ByteArray.empty), (.string ByteArray.empty), (.string ByteArray.empty), (.string ByteArray.empty), (.string ByteArray.empty), (.string ByteArray.empty), (.string ByteArray.empty), (.string ByteArray.empty), (.string ByteArray.empty), (.string ByteArray.empty), (.string ByteArray.empty), (.string ByteArray.empty), (.string ByteArray.empty), (.string ByteArray.empty), (.string ByteArray.empty), (.string ByteArray.empty), (.string ByteArray.empty), (.string ByteArray.empty), (.string ByteArray.empty), (.string ByteArray.empty), (.string ByteArray.empty), (.string ByteArray.empty), (.string ByteArray.empty), (.string ByteArray.empty), (.string ByteArray.empty)])) := ⟨fun _ => by kernel_rfl, fun _ => by kernel_rfl, fun _ => by kernel_rfl, (by unfold TArray; kernel_rfl), fun _ => by kernel_rfl⟩
theorem g46 : TI.ok Try.prog 46 (.sl 3 1 8) := ⟨fun _ => by kernel_rfl, fun _ => by kernel_rfl, fun _ => by kernel_rfl, fun _ => by kernel_rfl, (Try.prog.info? 3).getD default, (.int .i64 0), ⟨by kernel_rfl, by kernel_rfl, by kernel_rfl, by kernel_rfl, by kernel_rfl, by kernel_rfl⟩⟩
theorem g47 : TI.ok Try.prog 47 (.st 3 [(0, 5), (1, 5), (2, 9)] (Array.mk [(.int .u8 0), (.int .u8 0), (.string ByteArray.empty)]) [1, 1, 1]) := ⟨fun _ => by kernel_rfl, fun _ => by kernel_rfl, fun _ => by kernel_rfl, (fun f off ft h => match f, h with | 0, h => by cases h; exact ⟨fun _ _ => by kernel_rfl, fun _ _ => by kernel_rfl⟩ | 1, h => by cases h; exact ⟨fun _ _ => by kernel_rfl, fun _ _ => by kernel_rfl⟩ | 2, h => by cases h; exact ⟨fun _ _ => by kernel_rfl, fun _ _ => by kernel_rfl⟩ | (_ + 3), h => by simp at h),
    TBuild.mk (places := #[(0, 1), (1, 1), (2, 1)]) Try.underlying47 (fun _ => by kernel_rfl) (fun _ => by kernel_rfl) (fun i => match i with | 0 => rfl | 1 => rfl | 2 => rfl | (_ + 3) => by simp)⟩
theorem g48 : TI.ok Try.prog 48 (.st 3 [(0, 5), (1, 5), (2, 9)] (Array.mk [(.int .u8 0), (.int .u8 0), (.string ByteArray.empty)]) [1, 1, 1]) := ⟨fun _ => by kernel_rfl, fun _ => by kernel_rfl, fun _ => by kernel_rfl, (fun f off ft h => match f, h with | 0, h => by cases h; exact ⟨fun _ _ => by kernel_rfl, fun _ _ => by kernel_rfl⟩ | 1, h => by cases h; exact ⟨fun _ _ => by kernel_rfl, fun _ _ => by kernel_rfl⟩ | 2, h => by cases h; exact ⟨fun _ _ => by kernel_rfl, fun _ _ => by kernel_rfl⟩ | (_ + 3), h => by simp at h),
    TBuild.mk (places := #[(0, 1), (1, 1), (2, 1)]) Try.underlying48 (fun _ => by kernel_rfl) (fun _ => by kernel_rfl) (fun i => match i with | 0 => rfl | 1 => rfl | 2 => rfl | (_ + 3) => by simp)⟩
theorem g49 : TI.ok Try.prog 49 (.sl 5 1 1) := ⟨fun _ => by kernel_rfl, fun _ => by kernel_rfl, fun _ => by kernel_rfl, fun _ => by kernel_rfl, (Try.prog.info? 5).getD default, (.int .u8 0), ⟨by kernel_rfl, by kernel_rfl, by kernel_rfl, by kernel_rfl, by kernel_rfl, by kernel_rfl⟩⟩
theorem g50 : TI.ok Try.prog 50 (.sc .nilFunc) := ⟨fun _ => by kernel_rfl, fun _ => by kernel_rfl, fun _ => by kernel_rfl⟩
theorem g51 : TI.ok Try.prog 51 (.sc .nilFunc) := ⟨fun _ => by kernel_rfl, fun _ => by kernel_rfl, fun _ => by kernel_rfl⟩
theorem g52 : TI.ok Try.prog 52 (.sc .nilFunc) := ⟨fun _ => by kernel_rfl, fun _ => by kernel_rfl, fun _ => by kernel_rfl⟩
theorem g53 : TI.ok Try.prog 53 (.sc .nilFunc) := ⟨fun _ => by kernel_rfl, fun _ => by kernel_rfl, fun _ => by kernel_rfl⟩
theorem g54 : TI.ok Try.prog 54 (.sc .nilFunc) := ⟨fun _ => by kernel_rfl, fun _ => by kernel_rfl, fun _ => by kernel_rfl⟩
theorem g56 : TI.ok Try.prog 56 (.sc .nilFunc) := ⟨fun _ => by kernel_rfl, fun _ => by kernel_rfl, fun _ => by kernel_rfl⟩
theorem g57 : TI.ok Try.prog 57 (.sc .nilFunc) := ⟨fun _ => by kernel_rfl, fun _ => by kernel_rfl, fun _ => by kernel_rfl⟩
theorem g58 : TI.ok Try.prog 58 (.sc .nilFunc) := ⟨fun _ => by kernel_rfl, fun _ => by kernel_rfl, fun _ => by kernel_rfl⟩
theorem g59 : TI.ok Try.prog 59 (.sc .nilFunc) := ⟨fun _ => by kernel_rfl, fun _ => by kernel_rfl, fun _ => by kernel_rfl⟩
theorem g61 : TI.ok Try.prog 61 (.sc .nilFunc) := ⟨fun _ => by kernel_rfl, fun _ => by kernel_rfl, fun _ => by kernel_rfl⟩
theorem g62 : TI.ok Try.prog 62 (.sc .nilFunc) := ⟨fun _ => by kernel_rfl, fun _ => by kernel_rfl, fun _ => by kernel_rfl⟩
theorem g63 : TI.ok Try.prog 63 (.sc .nilFunc) := ⟨fun _ => by kernel_rfl, fun _ => by kernel_rfl, fun _ => by kernel_rfl⟩
theorem g64 : TI.ok Try.prog 64 (.sc (.map none)) := ⟨fun _ => by kernel_rfl, fun _ => by kernel_rfl, fun _ => by kernel_rfl⟩
theorem g65 : TI.ok Try.prog 65 (.sc .nilFunc) := ⟨fun _ => by kernel_rfl, fun _ => by kernel_rfl, fun _ => by kernel_rfl⟩
theorem g67 : TI.ok Try.prog 67 (.sc .nilFunc) := ⟨fun _ => by kernel_rfl, fun _ => by kernel_rfl, fun _ => by kernel_rfl⟩
theorem g68 : TI.ok Try.prog 68 (.sc .nilFunc) := ⟨fun _ => by kernel_rfl, fun _ => by kernel_rfl, fun _ => by kernel_rfl⟩
theorem g69 : TI.ok Try.prog 69 (.sc .nilFunc) := ⟨fun _ => by kernel_rfl, fun _ => by kernel_rfl, fun _ => by kernel_rfl⟩
theorem g70 : TI.ok Try.prog 70 (.sc .nilFunc) := ⟨fun _ => by kernel_rfl, fun _ => by kernel_rfl, fun _ => by kernel_rfl⟩
theorem g71 : TI.ok Try.prog 71 (.sc .nilFunc) := ⟨fun _ => by kernel_rfl, fun _ => by kernel_rfl, fun _ => by kernel_rfl⟩
theorem g72 : TI.ok Try.prog 72 (.sc .nilFunc) := ⟨fun _ => by kernel_rfl, fun _ => by kernel_rfl, fun _ => by kernel_rfl⟩
theorem g78 : TI.ok Try.prog 78 (.sc .nilFunc) := ⟨fun _ => by kernel_rfl, fun _ => by kernel_rfl, fun _ => by kernel_rfl⟩
theorem g79 : TI.ok Try.prog 79 (.sc (.int .u32 0)) := ⟨fun _ => by kernel_rfl, fun _ => by kernel_rfl, fun _ => by kernel_rfl⟩
theorem g82 : TI.ok Try.prog 82 (.sc .nilFunc) := ⟨fun _ => by kernel_rfl, fun _ => by kernel_rfl, fun _ => by kernel_rfl⟩
theorem g83 : TI.ok Try.prog 83 (.sc (.pointer none)) := ⟨fun _ => by kernel_rfl, fun _ => by kernel_rfl, fun _ => by kernel_rfl⟩
theorem g86 : TI.ok Try.prog 86 (.st 11 [(0, 12), (1, 12), (2, 79), (3, 80), (4, 5), (5, 5), (6, 81), (7, 82), (8, 83), (9, 84), (10, 85)] (Array.mk [(.int .u64 0), (.int .u64 0), (.int .u32 0), (.int .u8 0), (.int .u8 0), (.int .u8 0), (.int .u8 0), .nilFunc, (.pointer none), (.int .i32 0), (.int .i32 0)]) [1, 1, 1, 1, 1, 1, 1, 1, 1, 1, 1]) := ⟨fun _ => by kernel_rfl, fun _ => by kernel_rfl, fun _ => by kernel_rfl, (fun f off ft h => match f, h with | 0, h => by cases h; exact ⟨fun _ _ => by kernel_rfl, fun _ _ => by kernel_rfl⟩ | 1, h => by cases h; exact ⟨fun _ _ => by kernel_rfl, fun _ _ => by kernel_rfl⟩ | 2, h => by cases h; exact ⟨fun _ _ => by kernel_rfl, fun _ _ => by kernel_rfl⟩ | 3, h => by cases h; exact ⟨fun _ _ => by kernel_rfl, fun _ _ => by kernel_rfl⟩ | 4, h => by cases h; exact ⟨fun _ _ => by kernel_rfl, fun _ _ => by kernel_rfl⟩ | 5, h => by cases h; exact ⟨fun _ _ => by kernel_rfl, fun _ _ => by kernel_rfl⟩ | 6, h => by cases h; exact ⟨fun _ _ => by kernel_rfl, fun _ _ => by kernel_rfl⟩ | 7, h => by cases h; exact ⟨fun _ _ => by kernel_rfl, fun _ _ => by kernel_rfl⟩ | 8, h => by cases h; exact ⟨fun _ _ => by kernel_rfl, fun _ _ => by kernel_rfl⟩ | 9, h => by cases h; exact ⟨fun _ _ => by kernel_rfl, fun _ _ => by kernel_rfl⟩ | 10, h => by cases h; exact ⟨fun _ _ => by kernel_rfl, fun _ _ => by kernel_rfl⟩ | (_ + 11), h => by simp at h),
    TBuild.mk (places := #[(0, 1), (1, 1), (2, 1), (3, 1), (4, 1), (5, 1), (6, 1), (7, 1), (8, 1), (9, 1), (10, 1)]) Try.underlying86 (fun _ => by kernel_rfl) (fun _ => by kernel_rfl) (fun i => match i with | 0 => rfl | 1 => rfl | 2 => rfl | 3 => rfl | 4 => rfl | 5 => rfl | 6 => rfl | 7 => rfl | 8 => rfl | 9 => rfl | 10 => rfl | (_ + 11) => by simp)⟩
@[reducible] def G : TEnv := [(1, .sc .nilFunc), (2, .sc (.int .i64 0)), (3, .sc (.int .i64 0)), (4, .bl), (5, .sc (.int .u8 0)), (9, .str), (12, .sc (.int .u64 0)), (15, .sc (.pointer none)), (16, .sc (.pointer none)), (17, .sc (.pointer none)), (20, .sc .nilIface), (21, .sc (.int .i32 0)), (22, .sl 41 2 32), (23, .sc .nilFunc), (24, .sc .nilFunc), (26, .sc .nilFunc), (27, .sc (.int .i64 0)), (29, .sc .nilFunc), (31, .sc .nilFunc), (33, .sc .nilFunc), (35, .sc .nilFunc), (37, .sc .nilFunc), (38, .sc .nilFunc), (39, .sc .nilFunc), (40, .st 2 [(0, 9), (1, 9)] (Array.mk [(.string ByteArray.empty), (.string ByteArray.empty)]) [1, 1]), (41, .st 2 [(0, 9), (1, 9)] (Array.mk [(.string ByteArray.empty), (.string ByteArray.empty)]) [1, 1]), (42, .sc .nilFunc), (43, .sl 48 3 24), (44, .ar 26 26 4 1 (Array.mk [(.bool false), (.bool false), (.bool false), (.bool false), (.bool false), (.bool false), (.bool false), (.bool false), (.bool false), (.bool false), (.bool false), (.bool false), (.bool false), (.bool false), (.bool false), (.bool false), (.bool false), (.bool false), (.bool false), (.bool false), (.bool false), (.bool false), (.bool false), (.bool false), (.bool false), (.bool false)])), (45, .ar 26 26 9 1 (Array.mk [(.string ByteArray.empty), (.string ByteArray.empty), (.string ByteArray.empty), (.string ByteArray.empty), (.string ByteArray.empty), (.string ByteArray.empty), (.string ByteArray.empty), (.string ByteArray.empty), (.string ByteArray.empty), (.string ByteArray.empty), (.string ByteArray.empty), (.string ByteArray.empty), (.string ByteArray.empty), (.string ByteArray.empty), (.string ByteArray.empty), (.string ByteArray.empty), (.string ByteArray.empty), (.string ByteArray.empty), (.string ByteArray.empty), (.string ByteArray.empty), (.string ByteArray.empty), (.string ByteArray.empty), (.string ByteArray.empty), (.string ByteArray.empty), (.string ByteArray.empty), (.string ByteArray.empty)])), (46, .sl 3 1 8), (47, .st 3 [(0, 5), (1, 5), (2, 9)] (Array.mk [(.int .u8 0), (.int .u8 0), (.string ByteArray.empty)]) [1, 1, 1]), (48, .st 3 [(0, 5), (1, 5), (2, 9)] (Array.mk [(.int .u8 0), (.int .u8 0), (.string ByteArray.empty)]) [1, 1, 1]), (49, .sl 5 1 1), (50, .sc .nilFunc), (51, .sc .nilFunc), (52, .sc .nilFunc), (53, .sc .nilFunc), (54, .sc .nilFunc), (56, .sc .nilFunc), (57, .sc .nilFunc), (58, .sc .nilFunc), (59, .sc .nilFunc), (61, .sc .nilFunc), (62, .sc .nilFunc), (63, .sc .nilFunc), (64, .sc (.map none)), (65, .sc .nilFunc), (67, .sc .nilFunc), (68, .sc .nilFunc), (69, .sc .nilFunc), (70, .sc .nilFunc), (71, .sc .nilFunc), (72, .sc .nilFunc), (78, .sc .nilFunc), (79, .sc (.int .u32 0)), (82, .sc .nilFunc), (83, .sc (.pointer none)), (86, .st 11 [(0, 12), (1, 12), (2, 79), (3, 80), (4, 5), (5, 5), (6, 81), (7, 82), (8, 83), (9, 84), (10, 85)] (Array.mk [(.int .u64 0), (.int .u64 0), (.int .u32 0), (.int .u8 0), (.int .u8 0), (.int .u8 0), (.int .u8 0), .nilFunc, (.pointer none), (.int .i32 0), (.int .i32 0)]) [1, 1, 1, 1, 1, 1, 1, 1, 1, 1, 1])]
theorem G_good : G.Good Try.prog := List.forall_mem_cons.2 ⟨g1, List.forall_mem_cons.2 ⟨g2, List.forall_mem_cons.2 ⟨g3, List.forall_mem_cons.2 ⟨g4, List.forall_mem_cons.2 ⟨g5, List.forall_mem_cons.2 ⟨g9, List.forall_mem_cons.2 ⟨g12, List.forall_mem_cons.2 ⟨g15, List.forall_mem_cons.2 ⟨g16, List.forall_mem_cons.2 ⟨g17, List.forall_mem_cons.2 ⟨g20, List.forall_mem_cons.2 ⟨g21, List.forall_mem_cons.2 ⟨g22, List.forall_mem_cons.2 ⟨g23, List.forall_mem_cons.2 ⟨g24, List.forall_mem_cons.2 ⟨g26, List.forall_mem_cons.2 ⟨g27, List.forall_mem_cons.2 ⟨g29, List.forall_mem_cons.2 ⟨g31, List.forall_mem_cons.2 ⟨g33, List.forall_mem_cons.2 ⟨g35, List.forall_mem_cons.2 ⟨g37, List.forall_mem_cons.2 ⟨g38, List.forall_mem_cons.2 ⟨g39, List.forall_mem_cons.2 ⟨g40, List.forall_mem_cons.2 ⟨g41, List.forall_mem_cons.2 ⟨g42, List.forall_mem_cons.2 ⟨g43, List.forall_mem_cons.2 ⟨g44, List.forall_mem_cons.2 ⟨g45, List.forall_mem_cons.2 ⟨g46, List.forall_mem_cons.2 ⟨g47, List.forall_mem_cons.2 ⟨g48, List.forall_mem_cons.2 ⟨g49, List.forall_mem_cons.2 ⟨g50, List.forall_mem_cons.2 ⟨g51, List.forall_mem_cons.2 ⟨g52, List.forall_mem_cons.2 ⟨g53, List.forall_mem_cons.2 ⟨g54, List.forall_mem_cons.2 ⟨g56, List.forall_mem_cons.2 ⟨g57, List.forall_mem_cons.2 ⟨g58, List.forall_mem_cons.2 ⟨g59, List.forall_mem_cons.2 ⟨g61, List.forall_mem_cons.2 ⟨g62, List.forall_mem_cons.2 ⟨g63, List.forall_mem_cons.2 ⟨g64, List.forall_mem_cons.2 ⟨g65, List.forall_mem_cons.2 ⟨g67, List.forall_mem_cons.2 ⟨g68, List.forall_mem_cons.2 ⟨g69, List.forall_mem_cons.2 ⟨g70, List.forall_mem_cons.2 ⟨g71, List.forall_mem_cons.2 ⟨g72, List.forall_mem_cons.2 ⟨g78, List.forall_mem_cons.2 ⟨g79, List.forall_mem_cons.2 ⟨g82, List.forall_mem_cons.2 ⟨g83, List.forall_mem_cons.2 ⟨g86, (fun _ h => by simp at h)⟩⟩⟩⟩⟩⟩⟩⟩⟩⟩⟩⟩⟩⟩⟩⟩⟩⟩⟩⟩⟩⟩⟩⟩⟩⟩⟩⟩⟩⟩⟩⟩⟩⟩⟩⟩⟩⟩⟩⟩⟩⟩⟩⟩⟩⟩⟩⟩⟩⟩⟩⟩⟩⟩⟩⟩⟩⟩⟩
theorem c3 : Callable Try.prog 3 := fun _ _ => by kernel_rfl
theorem c4 : Callable Try.prog 4 := fun _ _ => by kernel_rfl
theorem c5 : Callable Try.prog 5 := fun _ _ => by kernel_rfl
theorem c6 : Callable Try.prog 6 := fun _ _ => by kernel_rfl
theorem c7 : Callable Try.prog 7 := fun _ _ => by kernel_rfl
theorem c8 : Callable Try.prog 8 := fun _ _ => by kernel_rfl
theorem c9 : Callable Try.prog 9 := fun _ _ => by kernel_rfl
theorem c10 : Callable Try.prog 10 := fun _ _ => by kernel_rfl
theorem c11 : Callable Try.prog 11 := fun _ _ => by kernel_rfl
theorem c12 : Callable Try.prog 12 := fun _ _ => by kernel_rfl
theorem c13 : Callable Try.prog 13 := fun _ _ => by kernel_rfl
theorem c14 : Callable Try.prog 14 := fun _ _ => by kernel_rfl
theorem c15 : Callable Try.prog 15 := fun _ _ => by kernel_rfl
theorem c16 : Callable Try.prog 16 := fun _ _ => by kernel_rfl
theorem c17 : Callable Try.prog 17 := fun _ _ => by kernel_rfl
theorem c18 : Callable Try.prog 18 := fun _ _ => by kernel_rfl
theorem c19 : Callable Try.prog 19 := fun _ _ => by kernel_rfl
theorem c20 : Callable Try.prog 20 := fun _ _ => by kernel_rfl
theorem c21 : Callable Try.prog 21 := fun _ _ => by kernel_rfl
theorem c22 : Callable Try.prog 22 := fun _ _ => by kernel_rfl
theorem c23 : Callable Try.prog 23 := fun _ _ => by kernel_rfl
theorem c24 : Callable Try.prog 24 := fun _ _ => by kernel_rfl
theorem c25 : Callable Try.prog 25 := fun _ _ => by kernel_rfl
theorem c26 : Callable Try.prog 26 := fun _ _ => by kernel_rfl
theorem c27 : Callable Try.prog 27 := fun _ _ => by kernel_rfl
theorem c28 : Callable Try.prog 28 := fun _ _ => by kernel_rfl
theorem c29 : Callable Try.prog 29 := fun _ _ => by kernel_rfl
theorem c30 : Callable Try.prog 30 := fun _ _ => by kernel_rfl
theorem c31 : Callable Try.prog 31 := fun _ _ => by kernel_rfl
theorem c32 : Callable Try.prog 32 := fun _ _ => by kernel_rfl
theorem c33 : Callable Try.prog 33 := fun _ _ => by kernel_rfl
theorem c34 : Callable Try.prog 34 := fun _ _ => by kernel_rfl
theorem c35 : Callable Try.prog 35 := fun _ _ => by kernel_rfl
theorem c36 : Callable Try.prog 36 := fun _ _ => by kernel_rfl
theorem c37 : Callable Try.prog 37 := fun _ _ => by kernel_rfl
theorem c38 : Callable Try.prog 38 := fun _ _ => by kernel_rfl
theorem c39 : Callable Try.prog 39 := fun _ _ => by kernel_rfl
theorem c40 : Callable Try.prog 40 := fun _ _ => by kernel_rfl
theorem c41 : Callable Try.prog 41 := fun _ _ => by kernel_rfl
theorem c42 : Callable Try.prog 42 := fun _ _ => by kernel_rfl
theorem c43 : Callable Try.prog 43 := fun _ _ => by kernel_rfl
theorem c44 : Callable Try.prog 44 := fun _ _ => by kernel_rfl
end Go.Proofs.Attr
end
section
namespace Go.Proofs.Attr
open Go.Am
set_option maxRecDepth 100000
def smallC (c : Int) : Bool := decide (97 ≤ c) && decide (c ≤ 122)
def capC (c : Int) : Bool := decide (65 ≤ c) && decide (c ≤ 90)
def signC (c : Int) : Bool := smallC c || capC c || (decide (48 ≤ c) && decide (c ≤ 57)) || decide (c = 45) || decide (c = 95) || decide (c = 46)
@[reducible] def eRune (c : Int) : AV := .lit (.int .i32 c)
@[reducible] def eBool (b : Bool) : AV := .lit (.bool b)
@[reducible] def eStr (s : ByteArray) : AV := .lit (.string s)
@[reducible] def eInt (n : Int) : AV := .lit (.int .i64 n)
theorem f42_ok (c : Int) : FnOK Try.prog 42 [] [eRune c] [] (eBool (smallC c)) := by
  refine FnOK.startC (rvs := [.tmp 2]) G G_good Try.func42 rfl Try.ntmps42 rfl rfl ?_; delta List.toArray; ((with_reducible conv => whnf); (with_reducible conv => congr <;> reduce); repeat ((first | (with_reducible refine HaltK.mk ?_) | (with_reducible refine StopK.mk ?_)); (with_reducible conv => whnf); (with_reducible conv => congr <;> reduce)))
  refine IfK.mk (fun h => ?_) (fun h => ?_) <;> (try simp only [castN] at h) <;> ((with_reducible conv => whnf); (with_reducible conv => congr <;> reduce); repeat ((first | (with_reducible refine HaltK.mk ?_) | (with_reducible refine StopK.mk ?_)); (with_reducible conv => whnf); (with_reducible conv => congr <;> reduce)))
  · refine ⟨⟨rfl, rfl⟩, ?_, ?_⟩ <;> (with_reducible conv => whnf) <;> repeat' (first | (with_reducible exact trivial) | (with_reducible refine And.intro ?_ ?_ <;> with_reducible conv => whnf))
    unfold smallC
    simp at h; simp [h]
  · refine ⟨⟨rfl, rfl⟩, ?_, ?_⟩ <;> (with_reducible conv => whnf) <;> repeat' (first | (with_reducible exact trivial) | (with_reducible refine And.intro ?_ ?_ <;> with_reducible conv => whnf))
    unfold smallC
    simp at h; simp; omega
theorem f34_ok (c : Int) : FnOK Try.prog 34 [] [eRune c] [] (eBool (capC c)) := by
  refine FnOK.startC (rvs := [.tmp 2]) G G_good Try.func34 rfl Try.ntmps34 rfl rfl ?_; delta List.toArray; ((with_reducible conv => whnf); (with_reducible conv => congr <;> reduce); repeat ((first | (with_reducible refine HaltK.mk ?_) | (with_reducible refine StopK.mk ?_)); (with_reducible conv => whnf); (with_reducible conv => congr <;> reduce)))
  refine IfK.mk (fun h => ?_) (fun h => ?_) <;> (try simp only [castN] at h) <;> ((with_reducible conv => whnf); (with_reducible conv => congr <;> reduce); repeat ((first | (with_reducible refine HaltK.mk ?_) | (with_reducible refine StopK.mk ?_)); (with_reducible conv => whnf); (with_reducible conv => congr <;> reduce)))
  · refine ⟨⟨rfl, rfl⟩, ?_, ?_⟩ <;> (with_reducible conv => whnf) <;> repeat' (first | (with_reducible exact trivial) | (with_reducible refine And.intro ?_ ?_ <;> with_reducible conv => whnf))
    unfold capC
    simp at h; simp [h]
  · refine ⟨⟨rfl, rfl⟩, ?_, ?_⟩ <;> (with_reducible conv => whnf) <;> repeat' (first | (with_reducible exact trivial) | (with_reducible refine And.intro ?_ ?_ <;> with_reducible conv => whnf))
    unfold capC
    simp at h; simp; omega
theorem f41_ok (c : Int) : FnOK Try.prog 41 [] [eRune c] [] (eBool (signC c)) := by
  refine FnOK.startC (rvs := [.tmp 2]) G G_good Try.func41 rfl Try.ntmps41 rfl rfl ?_; delta List.toArray; ((with_reducible conv => whnf); (with_reducible conv => congr <;> reduce); repeat ((first | (with_reducible refine HaltK.mk ?_) | (with_reducible refine StopK.mk ?_)); (with_reducible conv => whnf); (with_reducible conv => congr <;> reduce)))
  refine CallK.lit [] (f42_ok c) c42 ⟨rfl, trivial⟩ rfl rfl ?_; ((with_reducible conv => whnf); (with_reducible conv => congr <;> reduce); repeat ((first | (with_reducible refine HaltK.mk ?_) | (with_reducible refine StopK.mk ?_)); (with_reducible conv => whnf); (with_reducible conv => congr <;> reduce)))
  repeat' (first
    | ((with_reducible show IfK _ _ _ _); first
      | (refine IfK.yes (by assumption) ?_; ((with_reducible conv => whnf); (with_reducible conv => congr <;> reduce); repeat ((first | (with_reducible refine HaltK.mk ?_) | (with_reducible refine StopK.mk ?_)); (with_reducible conv => whnf); (with_reducible conv => congr <;> reduce))))
      | (refine IfK.no (by assumption) ?_; ((with_reducible conv => whnf); (with_reducible conv => congr <;> reduce); repeat ((first | (with_reducible refine HaltK.mk ?_) | (with_reducible refine StopK.mk ?_)); (with_reducible conv => whnf); (with_reducible conv => congr <;> reduce))))
      | (with_reducible refine IfK.yes Bool.not_false ?_; ((with_reducible conv => whnf); (with_reducible conv => congr <;> reduce); repeat ((first | (with_reducible refine HaltK.mk ?_) | (with_reducible refine StopK.mk ?_)); (with_reducible conv => whnf); (with_reducible conv => congr <;> reduce))))
      | (with_reducible refine IfK.no Bool.not_true ?_; ((with_reducible conv => whnf); (with_reducible conv => congr <;> reduce); repeat ((first | (with_reducible refine HaltK.mk ?_) | (with_reducible refine StopK.mk ?_)); (with_reducible conv => whnf); (with_reducible conv => congr <;> reduce))))
      | (with_reducible refine IfK.yes (nf (by assumption)) ?_; ((with_reducible conv => whnf); (with_reducible conv => congr <;> reduce); repeat ((first | (with_reducible refine HaltK.mk ?_) | (with_reducible refine StopK.mk ?_)); (with_reducible conv => whnf); (with_reducible conv => congr <;> reduce))))
      | (with_reducible refine IfK.no (nt (by assumption)) ?_; ((with_reducible conv => whnf); (with_reducible conv => congr <;> reduce); repeat ((first | (with_reducible refine HaltK.mk ?_) | (with_reducible refine StopK.mk ?_)); (with_reducible conv => whnf); (with_reducible conv => congr <;> reduce))))
      | (with_reducible refine IfK.tt ?_; ((with_reducible conv => whnf); (with_reducible conv => congr <;> reduce); repeat ((first | (with_reducible refine HaltK.mk ?_) | (with_reducible refine StopK.mk ?_)); (with_reducible conv => whnf); (with_reducible conv => congr <;> reduce))))
      | (with_reducible refine IfK.ff ?_; ((with_reducible conv => whnf); (with_reducible conv => congr <;> reduce); repeat ((first | (with_reducible refine HaltK.mk ?_) | (with_reducible refine StopK.mk ?_)); (with_reducible conv => whnf); (with_reducible conv => congr <;> reduce))))
      | (refine IfK.mk (fun _ => ?_) (fun _ => ?_) <;> ((with_reducible conv => whnf); (with_reducible conv => congr <;> reduce); repeat ((first | (with_reducible refine HaltK.mk ?_) | (with_reducible refine StopK.mk ?_)); (with_reducible conv => whnf); (with_reducible conv => congr <;> reduce)))))
    | ((with_reducible show CallK _ _ 34 _ _ _ _); refine CallK.lit [] (f34_ok c) c34 ⟨rfl, trivial⟩ rfl rfl ?_; ((with_reducible conv => whnf); (with_reducible conv => congr <;> reduce); repeat ((first | (with_reducible refine HaltK.mk ?_) | (with_reducible refine StopK.mk ?_)); (with_reducible conv => whnf); (with_reducible conv => congr <;> reduce))))
    | ((with_reducible show (_ ∧ _) ∧ _ ∧ _); refine ⟨⟨rfl, rfl⟩, ?_, ?_⟩ <;> (with_reducible conv => whnf) <;> repeat' (first | (with_reducible exact trivial) | (with_reducible refine And.intro ?_ ?_ <;> with_reducible conv => whnf))))
  all_goals (simp_all [signC, smallC, capC] <;> omega)
theorem f40_ok (c : Int) : FnOK Try.prog 40 [] [eRune c] [] (eBool (!signC c)) := by
  refine FnOK.startC (rvs := [.tmp 2]) G G_good Try.func40 rfl Try.ntmps40 rfl rfl ?_; delta List.toArray; ((with_reducible conv => whnf); (with_reducible conv => congr <;> reduce); repeat ((first | (with_reducible refine HaltK.mk ?_) | (with_reducible refine StopK.mk ?_)); (with_reducible conv => whnf); (with_reducible conv => congr <;> reduce)))
  refine CallK.lit [] (f41_ok c) c41 ⟨rfl, trivial⟩ rfl rfl ?_; ((with_reducible conv => whnf); (with_reducible conv => congr <;> reduce); repeat ((first | (with_reducible refine HaltK.mk ?_) | (with_reducible refine StopK.mk ?_)); (with_reducible conv => whnf); (with_reducible conv => congr <;> reduce)))
  refine ⟨⟨rfl, rfl⟩, ?_, ?_⟩ <;> (with_reducible conv => whnf) <;> repeat' (first | (with_reducible exact trivial) | (with_reducible refine And.intro ?_ ?_ <;> with_reducible conv => whnf))
open Go.RowKit Go.Lib in
set_option maxHeartbeats 2000000 in
theorem f44_calls (g : Nat) (eg : ∀ args w, (callFunc g args).run Try.prog w = .ok (.enter g args) w) (p : Nat → Bool) (s : ByteArray) (w : World) (ht : Tabs Try.prog w fun _ => none) (hp : ∀ (W : World) (x : Nat), (Tabs Try.prog W fun _ => none) → x ≤ 1114111 → Calls Try.prog g #[.int .i32 (x : Int)] W fun e w' => e = .returned (.bool (p x)) ∧ Below W.heap.size W w') :
    Calls Try.prog 44 #[.string s, .func (.func g) #[] #[], .bool true] w fun e w' => e = .returned (.int .i64 (Lib.idxFunc p true s)) ∧ Below w.heap.size w w' := by
  go_enter Try.func44, Try.ntmps44
  go_wp2
  go_loopg [] s.size (fun gf wx => ∃ pos : Nat, wx.heap[w.heap.size]? = some (.stringIter s pos) ∧ Below w.heap.size w wx ∧ Lib.idxFuncFrom p true s gf pos = Lib.idxFunc p true s ∧ s.size ≤ pos + gf)
  case atStart => exact ⟨0, World.iter_heap w s 0, (Below.refl _ w).alloc (Nat.le_refl _) _, rfl, by omega⟩
  case round =>
    obtain ⟨pos, hit, hbw, hleft, hfu⟩ := hrel
    by_cases hps : pos < s.size
    · obtain ⟨g', rfl⟩ : ∃ g', gk = g' + 1 := ⟨gk - 1, by omega⟩
      have hnx : ∀ ty, (Instr.next (.pointer (some ⟨w.heap.size, 0, none⟩)) true ty).run Try.prog wr = _ := fun ty => Lib.run_next_any_at wr w.heap.size s pos ty hit hps
      have hwd := Lib.width_pos s pos
      obtain ⟨R, hR⟩ : ∃ R, (Utf8.decode s pos).1 = R := ⟨_, rfl⟩
      obtain ⟨K, hK⟩ : ∃ K, (Utf8.decode s pos).2 = K := ⟨_, rfl⟩
      simp only [Lib.idxFuncFrom, hps, if_true, hR, hK] at hleft
      rw [hR, hK] at hnx
      rw [hK] at hwd
      have hit2 := Lib.iterAt_heap wr w.heap.size s pos (pos + K) hit
      have hbw2 := Lib.below_iterAt hbw (k := w.heap.size) (Nat.le_refl _) s (pos + K)
      obtain ⟨W, hWd⟩ : ∃ W, wr.iterAt w.heap.size s (pos + K) = W := ⟨_, rfl⟩
      rw [hWd] at hnx hit2 hbw2
      have hltW : w.heap.size < W.heap.size := (Array.getElem?_eq_some_iff.1 hit2).1
      have cS : Calls Try.prog g #[.int .i32 (R : Int)] W _   := hp W R (ht.below hbw2) (by rw [← hR]; exact Lib.rune_le s pos)
      clear hp
      cases hsp : p R <;> rw [hsp] at cS <;> simp only [hsp, if_true, Bool.false_eq_true, Bool.true_eq_false, if_false] at hleft
      · go_wp2_with (go_at_fn g; refine cS.mono ?_; rintro e W' ⟨rfl, hbc⟩)
        go_roundg g'
        case measure => omega
        case rel => exact ⟨pos + K, (hbc.block _ hltW).trans hit2, (hbw2.trans (hbc.mono hbw2.size)), hleft, by omega⟩
      · go_wp2_with (go_at_fn g; refine cS.mono ?_; rintro e W' ⟨rfl, hbc⟩)
        go_ret
        exact ⟨by rw [← hleft] <;> rfl, (hbw2.trans (hbc.mono hbw2.size))⟩
    · have hnx : ∀ ty, (Instr.next (.pointer (some ⟨w.heap.size, 0, none⟩)) true ty).run Try.prog wr = _ := fun ty => Lib.run_next_end_at wr w.heap.size s pos ty hit hps
      rw [Lib.idxFuncFrom_end p true s gk pos hps] at hleft
      go_wp2
      go_ret
      exact ⟨by rw [← hleft] <;> rfl, hbw⟩
end Go.Proofs.Attr
end
section
namespace Go.Proofs.Attr
open Go.Am Go.RowKit Go.Lib
set_option maxRecDepth 100000
def lowB (c : UInt8) : UInt8 := if capC (c.toNat : Int) then c + 32 else c
def lowL (l : List UInt8) : List UInt8 := l.map lowB
def lowS (s : ByteArray) : ByteArray := ⟨(lowL s.data.toList).toArray⟩
/-- The bytes behind k rounds. -/
def midL (l : List UInt8) (k : Nat) : List UInt8 := (l.take k).map lowB ++ l.drop k
theorem midL_len (l : List UInt8) (k : Nat) : (midL l k).length = l.length := by simp [midL]; omega
theorem midL_get (l : List UInt8) (k : Nat) (h : k < l.length) : (midL l k)[k]? = some l[k] := by
  simp [midL, List.getElem?_append, List.getElem?_drop, Nat.min_eq_left (Nat.le_of_lt h), h]
theorem midL_set (l : List UInt8) (k : Nat) (h : k < l.length) : (midL l k).set k (lowB l[k]) = midL l (k + 1) := by
  unfold midL
  have h1 : ((l.take k).map lowB).length = k := by simp; omega
  rw [List.set_append_right _ _ (by omega), h1, Nat.sub_self, List.take_succ_eq_append_getElem h, List.drop_eq_getElem_cons h]
  simp only [List.set_cons_zero, List.map_append, List.map_cons, List.map_nil, List.append_assoc, List.cons_append, List.nil_append]
theorem midL_skip (l : List UInt8) (k : Nat) (h : k < l.length) (hc : capC (l[k].toNat : Int) = false) : midL l k = midL l (k + 1) := by
  rw [← midL_set l k h]
  have h2 := midL_get l k h
  apply List.ext_getElem?
  intro j
  rw [List.getElem?_set]
  by_cases hj : k = j
  · subst hj
    rw [if_pos rfl, if_pos (by rw [midL_len]; exact h), h2]
    simp [lowB, hc]
  · rw [if_neg hj]
/-- The cells of bytes. -/
def rowOf (l : List UInt8) (z : List Value) : Array Value := (l.map (fun b => Value.int .u8 b.toNat) ++ z).toArray
theorem rowOf_get (l : List UInt8) (z : List Value) (k : Nat) (b : UInt8) (h : l[k]? = some b) : (rowOf l z)[k]? = some (.int .u8 b.toNat) := by
  have hk := (List.getElem?_eq_some_iff.1 h).1
  simp only [rowOf, List.getElem?_toArray]
  rw [List.getElem?_append_left (by simpa using hk), List.getElem?_map, h]; rfl
theorem rowOf_set (l : List UInt8) (z : List Value) (k : Nat) (b : UInt8) (h : k < l.length) : (rowOf l z).setIfInBounds k (.int .u8 b.toNat) = rowOf (l.set k b) z := by
  apply Array.ext'
  simp only [rowOf, Array.toList_setIfInBounds, List.map_set]
  rw [List.set_append_left _ _ (by simpa using h)]
theorem cap_step (c : UInt8) (h : capC (c.toNat : Int) = true) : IntKind.u8.wrap (IntKind.u8.wrap ((c.toNat : Int) - 65) + 97) = ((c + 32 : UInt8).toNat : Int) := by
  simp only [capC, Bool.and_eq_true, decide_eq_true_eq] at h
  have h1 : IntKind.u8.wrap ((c.toNat : Int) - 65) = (c.toNat : Int) - 65 := by simp [IntKind.wrap_u8]; omega
  rw [h1]
  have h2 : IntKind.u8.wrap ((c.toNat : Int) - 65 + 97) = (c.toNat : Int) + 32 := by simp [IntKind.wrap_u8]; omega
  rw [h2]
  have : (c + 32 : UInt8).toNat = c.toNat + 32 := by
    rw [UInt8.toNat_add]; simp; omega
  rw [this]; rfl
set_option maxHeartbeats 4000000 in
theorem f23_calls (s : ByteArray) (w : World) (ht : Tabs Try.prog w fun _ => none) (hs : s.size ≤ 100000) : Calls Try.prog 23 #[.string s] w fun e w' => e = .returned (.string (lowS s)) ∧ Below w.heap.size w w' := by
  obtain ⟨l, rfl⟩ : ∃ l : List UInt8, s = ⟨l.toArray⟩ := ⟨s.data.toList, by obtain ⟨⟨l⟩⟩ := s; rfl⟩
  have hsz : (ByteArray.mk l.toArray).size = l.length := by simp [ByteArray.size]
  have hconv := run_bytes_of_string (P := Try.prog) w 9 49 5 ⟨l.toArray⟩ Try.underlying9 Try.underlying49 Try.underlying5
  rw [hsz] at hconv hs
  obtain ⟨cap, hcap⟩ : ∃ cap, grownCap w l.length 0 5 = cap := ⟨_, rfl⟩
  rw [hcap] at hconv
  obtain ⟨z, hz⟩ : ∃ z : List Value, bytesRow ⟨l.toArray⟩ cap = rowOf l z := ⟨List.replicate (cap - l.length) (.int .u8 0), by
    apply Array.ext'; simp [bytesRow, rowOf, ByteArray.size]⟩
  rw [hz] at hconv
  obtain ⟨n, hn⟩ : ∃ n, (rowOf l z).size = n := ⟨_, rfl⟩
  rw [hn] at hconv
  clear hcap hz
  go_enter Try.func23, Try.ntmps23
  go_wp2
  go_loopw [10] (fun i wr => ∃ k : Nat, k ≤ l.length ∧ i = .int .i64 k ∧ wr.heap[w.heap.size]? = some (.cells (rowOf (midL l k) z) 5 (n, n + 1)) ∧ Below w.heap.size w wr) (fun i _ => l.length - (intOf i).toNat)
  case atStart => exact ⟨0, Nat.zero_le _, rfl, (heap_alloc_new w (Obj.cells (rowOf l z) 5 (n, n + 1))), ((Below.refl _ w).alloc (Nat.le_refl _) _).drew⟩
  case round =>
    obtain ⟨k, hk, rfl, hh, hb⟩ := hrel
    by_cases hlt : k < l.length
    · have hcell : wr.cell? ⟨w.heap.size, k, none⟩ = some (.int .u8 (l[k].toNat : Int)) := by
        simp only [World.cell?, hh]
        exact rowOf_get _ z k _ (midL_get l k hlt)
      have hn2 : k < n := by rw [← hn]; simp [rowOf]; omega
      have hfz : wr.frozen? ⟨w.heap.size, k, none⟩ = false := by
        simp [World.frozen?, hh]; omega
      have hbs : w.heap.size < wr.heap.size := (Array.getElem?_eq_some_iff.1 hh).1
      have hb1 : 0 ≤ (l[k].toNat : Int) := Int.natCast_nonneg _
      have hb2 : (l[k].toNat : Int) ≤ 255 := by have := UInt8.toNat_lt l[k]; omega
      cases hc : capC (l[k].toNat : Int) with
      | false =>
        go_wp2_with (go_at_call 34; refine ((f34_ok (l[k].toNat : Int)).below (vs := [.int .i32 (l[k].toNat : Int)]) _ (ht.below hb)).mono ?_; rw [hc]; rintro e w1 ⟨rfl, hb3⟩)
        go_roundw
        case rel => exact ⟨k + 1, by omega, by go_num, by rw [hb3.block _ hbs, hh, midL_skip l k hlt hc], hb.trans (hb3.mono hb.size)⟩
        case measure => simp [intOf]; omega
      | true =>
        have hst : IntKind.u8.wrap (IntKind.u8.wrap ((l[k].toNat : Int) - 65) + 97) = ((lowB l[k]).toNat : Int) := by
          rw [cap_step _ hc]; unfold lowB; rw [hc]; rfl
        simp only [IntKind.wrap_u8] at hst
        have H := hid hst
        clear hst
        go_wp2_with (go_at_call 34; refine ((f34_ok (l[k].toNat : Int)).below (vs := [.int .i32 (l[k].toNat : Int)]) _ (ht.below hb)).mono ?_; rw [hc]; rintro e w1 ⟨rfl, hb3⟩; have hc1 := (hb3.cell (p := ⟨w.heap.size, k, none⟩) hbs).trans hcell; have hf1 := (hb3.frozen (p := ⟨w.heap.size, k, none⟩) hbs).trans hfz)
        go_roundw
        case rel =>
          refine ⟨k + 1, by omega, by go_num, ?_, hb.trans ((hb3.mono hb.size).setCell (Nat.le_refl _) _)⟩
          have hm : ((l[k].toNat : Int) - 65 + 97) % 256 = ((lowB l[k]).toNat : Int) := by
            rw [← H.out]; omega
          rw [hm]
          have hq : w1.heap[w.heap.size]? = some (.cells (rowOf (midL l k) z) 5 (n, n + 1)) := (hb3.block _ hbs).trans hh
          have hs2 : w.heap.size < w1.heap.size := (Array.getElem?_eq_some_iff.1 hq).1
          unfold World.setCell
          simp only [Array.getElem?_modify, hq, if_true, Option.map_some]
          have hrs := rowOf_set (midL l k) z k (lowB l[k]) (by rw [midL_len]; exact hlt)
          rw [midL_set l k hlt] at hrs
          simp only [hrs]; rfl
        case measure => simp [intOf]; omega
    · have : k = l.length := by omega
      subst this
      have hrw : rowOf (midL l l.length) z = rowOf (lowL l) z := by simp [midL, lowL]
      rw [hrw] at hh
      have hcv := run_convert_bytes_back (P := Try.prog) wr 49 9 5 ⟨w.heap.size, 0, none⟩ cap (lowL l) Try.underlying49 Try.underlying5 Try.underlying9 (fun j hj => by
        have := rowOf_get (lowL l) z j ((lowL l)[j]) (List.getElem?_eq_getElem hj)
        have ha : (⟨w.heap.size, 0, none⟩ : Addr).add j = ⟨w.heap.size, j, none⟩ := by
          unfold Addr.add; split <;> simp_all
        rw [ha]; simp only [World.cell?, hh, this]; rfl)
      rw [show (lowL l).length = l.length from by simp [lowL]] at hcv
      go_wp2
      go_ret
      exact ⟨rfl, hb⟩
/-- name.Small. -/
theorem f23_ok (s : ByteArray) (hs : s.size ≤ 100000) : FnOK Try.prog 23 [] [eStr s] [] (eStr (lowS s)) :=
  FnOK.of_calls (vs := [.string s]) (v := .string (lowS s)) fun w ht => f23_calls s w ht hs
end Go.Proofs.Attr
end
section
namespace Go.Proofs.Attr
open Go.Am Go.RowKit Go.Lib
set_option maxRecDepth 100000
def signB (b : UInt8) : Bool := signC (b.toNat : Int)
def firstB : List UInt8 → Bool
  | [] => false
  | b :: _ => smallC (b.toNat : Int) || capC (b.toNat : Int) || decide ((b.toNat : Int) = 95)
def rightL (l : List UInt8) : Bool := decide (1 ≤ l.length) && decide (l.length ≤ 40) && l.all signB && firstB l
def rightS (s : ByteArray) : Bool := rightL s.data.toList
/-- A rune that is no sign begins with a byte that is none, and the other way round. -/
theorem idx_bad (s : ByteArray) : ∀ (f pos : Nat), s.size ≤ pos + f → (0 ≤ idxFuncFrom (fun r => !signC (r : Int)) true s f pos ↔ ∃ i, pos ≤ i ∧ ∃ b, s.data.toList[i]? = some b ∧ signB b = false)
  | 0, pos, h => by
    have : ¬ (0 : Int) ≤ idxFuncFrom (fun r => !signC (r : Int)) true s 0 pos := by simp [idxFuncFrom]
    refine ⟨fun h' => absurd h' this, ?_⟩
    rintro ⟨i, h1, b, h2, _⟩
    have := (List.getElem?_eq_some_iff.1 h2).1
    have : i < s.size := this
    omega
  | f + 1, pos, h => by
    by_cases hp : pos < s.size
    · have ih := idx_bad s f
      have hb : ∃ b, s.data.toList[pos]? = some b ∧ s.get! pos = b := ⟨_, List.getElem?_eq_getElem hp, by show s.data[pos]! = _; rw [getElem!_pos s.data pos hp]; rfl⟩
      obtain ⟨b, hb1, hb2⟩ := hb
      unfold idxFuncFrom
      rw [if_pos hp, decode_at, hb2]
      have hbn : b.toNat < 256 := UInt8.toNat_lt b
      have big : ∀ r : Nat, 128 ≤ r → signC (r : Int) = false := by
        intro r hr
        have : (128 : Int) ≤ r := by omega
        simp only [signC, smallC, capC, Bool.or_eq_false_iff, Bool.and_eq_false_iff, decide_eq_false_iff_not]
        omega
      have bad : ∀ r w : Nat, 128 ≤ r → 128 ≤ b.toNat → ((0 : Int) ≤ (if (!signC (r : Int)) = true then (pos : Int) else idxFuncFrom (fun r => !signC (r : Int)) true s f (pos + w)) ↔ ∃ i, pos ≤ i ∧ ∃ b, s.data.toList[i]? = some b ∧ signB b = false) := by
        intro r w hr hbr
        rw [big r hr]
        exact ⟨fun _ => ⟨pos, Nat.le_refl _, b, hb1, big _ hbr⟩, fun _ => by simp⟩
      rcases decodeN_shape (s.size - pos) b.toNat (s.get! (pos + 1)).toNat (s.get! (pos + 2)).toNat (s.get! (pos + 3)).toNat with ⟨h1, h2⟩ | ⟨h1, h3, h4, h5, h2⟩ | ⟨h1, h3, h4, h5, h6, h7, h2⟩ | ⟨h1, h3, h4, h5, h6, h7, h8, h2⟩ | h2
      · rw [h2]
        show (0 : Int) ≤ (if (!signC (b.toNat : Int)) = true then (pos : Int) else idxFuncFrom _ true s f (pos + 1)) ↔ _
        cases hs : signC (b.toNat : Int) with
        | false => exact ⟨fun _ => ⟨pos, Nat.le_refl _, b, hb1, hs⟩, fun _ => by simp⟩
        | true =>
          rw [if_neg (by simp), ih (pos + 1) (by omega)]
          constructor
          · rintro ⟨i, h3, h4⟩; exact ⟨i, by omega, h4⟩
          · rintro ⟨i, h3, b', h4, h5⟩
            rcases Nat.lt_or_ge pos i with h6 | h6
            · exact ⟨i, h6, b', h4, h5⟩
            · have : i = pos := by omega
              subst this
              rw [hb1] at h4; cases h4
              rw [signB, hs] at h5; cases h5
      · rw [h2]; exact bad _ _ (by omega) (by omega)
      · rw [h2]; exact bad _ _ (by omega) (by omega)
      · rw [h2]; exact bad _ _ (by omega) (by omega)
      · rw [h2]
        refine bad _ _ (by omega) ?_
        rcases Nat.lt_or_ge b.toNat 128 with h3 | h3
        · rw [decodeN, if_pos h3] at h2; simp only [Prod.mk.injEq] at h2; omega
        · exact h3
    · rw [idxFuncFrom_end _ _ _ _ _ hp]
      refine ⟨fun h' => by omega, ?_⟩
      rintro ⟨i, h1, b, h2, _⟩
      have := (List.getElem?_eq_some_iff.1 h2).1
      have : i < s.size := this
      omega
theorem idx_all (s : ByteArray) : decide (0 ≤ idxFunc (fun r => !signC (r : Int)) true s) = !s.data.toList.all signB := by
  have h := idx_bad s s.size 0 (by omega)
  cases ha : s.data.toList.all signB with
  | true =>
    simp only [Bool.not_true, decide_eq_false_iff_not]
    intro h'
    obtain ⟨i, _, b, h1, h2⟩ := h.1 h'
    have := List.all_eq_true.1 ha b (List.mem_of_getElem? h1)
    rw [this] at h2; cases h2
  | false =>
    simp only [Bool.not_false, decide_eq_true_eq]
    refine h.2 ?_
    obtain ⟨b, h1, h2⟩ := List.all_eq_false.1 ha
    obtain ⟨i, h3⟩ := List.getElem?_of_mem h1
    exact ⟨i, Nat.zero_le _, b, h3, by simpa using h2⟩
theorem f43_calls (g : Nat) (eg : ∀ args w, (callFunc g args).run Try.prog w = .ok (.enter g args) w) (p : Nat → Bool) (s : ByteArray) (w : World) (ht : Tabs Try.prog w fun _ => none) (hp : ∀ (W : World) (x : Nat), (Tabs Try.prog W fun _ => none) → x ≤ 1114111 → Calls Try.prog g #[.int .i32 (x : Int)] W fun e w' => e = .returned (.bool (p x)) ∧ Below W.heap.size W w') :
    Calls Try.prog 43 #[.string s, .func (.func g) #[] #[]] w fun e w' => e = .returned (.int .i64 (Lib.idxFunc p true s)) ∧ Below w.heap.size w w' := by
  have h44 := f44_calls g eg p s w ht hp
  clear hp
  go_enter Try.func43, Try.ntmps43
  go_wp2_with (go_at_call 44; refine h44.mono ?_; rintro e w1 ⟨rfl, hb⟩)
  go_ret
  exact ⟨rfl, hb⟩
theorem f39_calls (g : Nat) (eg : ∀ args w, (callFunc g args).run Try.prog w = .ok (.enter g args) w) (p : Nat → Bool) (s : ByteArray) (w : World) (ht : Tabs Try.prog w fun _ => none) (hp : ∀ (W : World) (x : Nat), (Tabs Try.prog W fun _ => none) → x ≤ 1114111 → Calls Try.prog g #[.int .i32 (x : Int)] W fun e w' => e = .returned (.bool (p x)) ∧ Below W.heap.size W w') :
    Calls Try.prog 39 #[.string s, .func (.func g) #[] #[]] w fun e w' => e = .returned (.bool (decide (0 ≤ Lib.idxFunc p true s))) ∧ Below w.heap.size w w' := by
  have h43 := f43_calls g eg p s w ht hp
  clear hp
  go_enter Try.func39, Try.ntmps39
  go_wp2_with (go_at_call 43; refine h43.mono ?_; rintro e w1 ⟨rfl, hb⟩)
  go_ret
  exact ⟨rfl, hb⟩
theorem f39_ok (s : ByteArray) : FnOK Try.prog 39 [] [eStr s, .lit (.func (.func 40) #[] #[])] [] (eBool (!s.data.toList.all signB)) := by
  rw [← idx_all]
  exact FnOK.of_calls (vs := [.string s, .func (.func 40) #[] #[]]) fun w ht => f39_calls 40 c40 (fun r => !signC (r : Int)) s w ht fun W x ht _ => (f40_ok (x : Int)).below (vs := [.int .i32 (x : Int)]) W ht
theorem size_len (s : ByteArray) : s.size = s.data.toList.length := (Array.length_toList (xs := s.data)).symm
theorem first_get {l : List UInt8} (h : 1 ≤ l.length) : ∃ b r, l = b :: r ∧ l[0]? = some b := by
  cases l with
  | nil => simp at h
  | cons b r => exact ⟨b, r, rfl, rfl⟩
theorem u8_i32 (b : UInt8) : IntKind.i32.wrap (b.toNat : Int) = (b.toNat : Int) := by
  have h : b.toNat < 256 := UInt8.toNat_lt b
  rw [IntKind.wrap_i32]; omega
theorem f36_ok (s : ByteArray) : FnOK Try.prog 36 [] [eStr s] [] (eBool (rightS s)) := by
  have hsz : s.size = s.data.toList.length := size_len s
  have hb0 : 1 ≤ s.data.toList.length → ∃ b r, s.data.toList = b :: r ∧ s.data.toList[0]? = some b := first_get
  refine FnOK.startC (rvs := [.tmp 2]) G G_good Try.func36 rfl Try.ntmps36 rfl rfl ?_; delta List.toArray; ((with_reducible conv => whnf); (with_reducible conv => congr <;> reduce); repeat ((first | (with_reducible refine HaltK.mk ?_) | (with_reducible refine StopK.mk ?_)); (with_reducible conv => whnf); (with_reducible conv => congr <;> reduce)))
  repeat' (first
    | ((with_reducible show IfK _ _ _ _); first
      | (refine IfK.yes (by assumption) ?_; ((with_reducible conv => whnf); (with_reducible conv => congr <;> reduce); repeat ((first | (with_reducible refine HaltK.mk ?_) | (with_reducible refine StopK.mk ?_)); (with_reducible conv => whnf); (with_reducible conv => congr <;> reduce))))
      | (refine IfK.no (by assumption) ?_; ((with_reducible conv => whnf); (with_reducible conv => congr <;> reduce); repeat ((first | (with_reducible refine HaltK.mk ?_) | (with_reducible refine StopK.mk ?_)); (with_reducible conv => whnf); (with_reducible conv => congr <;> reduce))))
      | (with_reducible refine IfK.yes Bool.not_false ?_; ((with_reducible conv => whnf); (with_reducible conv => congr <;> reduce); repeat ((first | (with_reducible refine HaltK.mk ?_) | (with_reducible refine StopK.mk ?_)); (with_reducible conv => whnf); (with_reducible conv => congr <;> reduce))))
      | (with_reducible refine IfK.no Bool.not_true ?_; ((with_reducible conv => whnf); (with_reducible conv => congr <;> reduce); repeat ((first | (with_reducible refine HaltK.mk ?_) | (with_reducible refine StopK.mk ?_)); (with_reducible conv => whnf); (with_reducible conv => congr <;> reduce))))
      | (with_reducible refine IfK.yes (nf (by assumption)) ?_; ((with_reducible conv => whnf); (with_reducible conv => congr <;> reduce); repeat ((first | (with_reducible refine HaltK.mk ?_) | (with_reducible refine StopK.mk ?_)); (with_reducible conv => whnf); (with_reducible conv => congr <;> reduce))))
      | (with_reducible refine IfK.no (nt (by assumption)) ?_; ((with_reducible conv => whnf); (with_reducible conv => congr <;> reduce); repeat ((first | (with_reducible refine HaltK.mk ?_) | (with_reducible refine StopK.mk ?_)); (with_reducible conv => whnf); (with_reducible conv => congr <;> reduce))))
      | (with_reducible refine IfK.tt ?_; ((with_reducible conv => whnf); (with_reducible conv => congr <;> reduce); repeat ((first | (with_reducible refine HaltK.mk ?_) | (with_reducible refine StopK.mk ?_)); (with_reducible conv => whnf); (with_reducible conv => congr <;> reduce))))
      | (with_reducible refine IfK.ff ?_; ((with_reducible conv => whnf); (with_reducible conv => congr <;> reduce); repeat ((first | (with_reducible refine HaltK.mk ?_) | (with_reducible refine StopK.mk ?_)); (with_reducible conv => whnf); (with_reducible conv => congr <;> reduce))))
      | (refine IfK.mk (fun _ => ?_) (fun _ => ?_) <;> ((with_reducible conv => whnf); (with_reducible conv => congr <;> reduce); repeat ((first | (with_reducible refine HaltK.mk ?_) | (with_reducible refine StopK.mk ?_)); (with_reducible conv => whnf); (with_reducible conv => congr <;> reduce)))))
    | ((with_reducible show CallK _ _ 39 _ _ _ _); refine CallK.lit [] (f39_ok _) c39 ⟨rfl, MF_refl 12 _ rfl, trivial⟩ rfl rfl ?_; ((with_reducible conv => whnf); (with_reducible conv => congr <;> reduce); repeat ((first | (with_reducible refine HaltK.mk ?_) | (with_reducible refine StopK.mk ?_)); (with_reducible conv => whnf); (with_reducible conv => congr <;> reduce))))
    | ((with_reducible show CallK _ _ 34 _ _ _ _); refine CallK.lit [] (f34_ok _) c34 ⟨rfl, trivial⟩ rfl rfl ?_; ((with_reducible conv => whnf); (with_reducible conv => congr <;> reduce); repeat ((first | (with_reducible refine HaltK.mk ?_) | (with_reducible refine StopK.mk ?_)); (with_reducible conv => whnf); (with_reducible conv => congr <;> reduce))))
    | ((with_reducible show CallK _ _ 42 _ _ _ _); refine CallK.lit [] (f42_ok _) c42 ⟨rfl, trivial⟩ rfl rfl ?_; ((with_reducible conv => whnf); (with_reducible conv => congr <;> reduce); repeat ((first | (with_reducible refine HaltK.mk ?_) | (with_reducible refine StopK.mk ?_)); (with_reducible conv => whnf); (with_reducible conv => congr <;> reduce))))
    | ((with_reducible show IdxSK _ _ _ _ _); obtain ⟨b, r, hl, hb⟩ := hb0 (by simp only [decide_eq_false_iff_not] at *; omega); refine IdxSK.mk 0 b rfl hb ?_; ((with_reducible conv => whnf); (with_reducible conv => congr <;> reduce); repeat ((first | (with_reducible refine HaltK.mk ?_) | (with_reducible refine StopK.mk ?_)); (with_reducible conv => whnf); (with_reducible conv => congr <;> reduce))))
    | ((with_reducible show ConvK _ _ _ _ _ _ _); refine ConvK.int (by kernel_rfl) (by kernel_rfl) (u8_i32 _) ?_; ((with_reducible conv => whnf); (with_reducible conv => congr <;> reduce); repeat ((first | (with_reducible refine HaltK.mk ?_) | (with_reducible refine StopK.mk ?_)); (with_reducible conv => whnf); (with_reducible conv => congr <;> reduce))))
    | ((with_reducible show (_ ∧ _) ∧ _ ∧ _); refine ⟨⟨rfl, rfl⟩, ?_, ?_⟩ <;> (with_reducible conv => whnf) <;> repeat' (first | (with_reducible exact trivial) | (with_reducible refine And.intro ?_ ?_ <;> with_reducible conv => whnf))))
  all_goals (simp only [decide_eq_true_eq, decide_eq_false_iff_not, hsz] at *; unfold rightS rightL)
  · rw [show decide (1 ≤ s.data.toList.length) = false from decide_eq_false (by omega)]; rfl
  · rw [show decide (s.data.toList.length ≤ 40) = false from decide_eq_false (by omega)]; simp
  · rw [show s.data.toList.all signB = false from by simp_all]; simp
  all_goals rw [show decide (1 ≤ s.data.toList.length) = true from decide_eq_true (by omega), show decide (s.data.toList.length ≤ 40) = true from decide_eq_true (by omega), show s.data.toList.all signB = true from by simp_all, hl]; simp_all [firstB]
theorem right_size {s : ByteArray} (h : rightS s = true) : s.size ≤ 40 := by
  unfold rightS rightL at h
  simp only [Bool.and_eq_true, decide_eq_true_eq] at h
  rw [size_len]; exact h.1.1.2
theorem right_small {s : ByteArray} (h : (!rightS s) = false) : s.size ≤ 100000 := by
  have := right_size (s := s) (by simpa using h)
  omega
theorem f30_ok (s : ByteArray) : FnOK Try.prog 30 [] [eStr s] [] (.tup [eStr (if rightS s then lowS s else ⟨#[]⟩), eInt (if rightS s then 0 else 4)]) := by
  refine FnOK.startC (rvs := [.tmp 2, .tmp 3]) G G_good Try.func30 rfl Try.ntmps30 rfl rfl ?_; delta List.toArray; ((with_reducible conv => whnf); (with_reducible conv => congr <;> reduce); repeat ((first | (with_reducible refine HaltK.mk ?_) | (with_reducible refine StopK.mk ?_)); (with_reducible conv => whnf); (with_reducible conv => congr <;> reduce)))
  repeat' (first
    | ((with_reducible show IfK _ _ _ _); first
      | (refine IfK.yes (by assumption) ?_; ((with_reducible conv => whnf); (with_reducible conv => congr <;> reduce); repeat ((first | (with_reducible refine HaltK.mk ?_) | (with_reducible refine StopK.mk ?_)); (with_reducible conv => whnf); (with_reducible conv => congr <;> reduce))))
      | (refine IfK.no (by assumption) ?_; ((with_reducible conv => whnf); (with_reducible conv => congr <;> reduce); repeat ((first | (with_reducible refine HaltK.mk ?_) | (with_reducible refine StopK.mk ?_)); (with_reducible conv => whnf); (with_reducible conv => congr <;> reduce))))
      | (with_reducible refine IfK.yes Bool.not_false ?_; ((with_reducible conv => whnf); (with_reducible conv => congr <;> reduce); repeat ((first | (with_reducible refine HaltK.mk ?_) | (with_reducible refine StopK.mk ?_)); (with_reducible conv => whnf); (with_reducible conv => congr <;> reduce))))
      | (with_reducible refine IfK.no Bool.not_true ?_; ((with_reducible conv => whnf); (with_reducible conv => congr <;> reduce); repeat ((first | (with_reducible refine HaltK.mk ?_) | (with_reducible refine StopK.mk ?_)); (with_reducible conv => whnf); (with_reducible conv => congr <;> reduce))))
      | (with_reducible refine IfK.yes (nf (by assumption)) ?_; ((with_reducible conv => whnf); (with_reducible conv => congr <;> reduce); repeat ((first | (with_reducible refine HaltK.mk ?_) | (with_reducible refine StopK.mk ?_)); (with_reducible conv => whnf); (with_reducible conv => congr <;> reduce))))
      | (with_reducible refine IfK.no (nt (by assumption)) ?_; ((with_reducible conv => whnf); (with_reducible conv => congr <;> reduce); repeat ((first | (with_reducible refine HaltK.mk ?_) | (with_reducible refine StopK.mk ?_)); (with_reducible conv => whnf); (with_reducible conv => congr <;> reduce))))
      | (with_reducible refine IfK.tt ?_; ((with_reducible conv => whnf); (with_reducible conv => congr <;> reduce); repeat ((first | (with_reducible refine HaltK.mk ?_) | (with_reducible refine StopK.mk ?_)); (with_reducible conv => whnf); (with_reducible conv => congr <;> reduce))))
      | (with_reducible refine IfK.ff ?_; ((with_reducible conv => whnf); (with_reducible conv => congr <;> reduce); repeat ((first | (with_reducible refine HaltK.mk ?_) | (with_reducible refine StopK.mk ?_)); (with_reducible conv => whnf); (with_reducible conv => congr <;> reduce))))
      | (refine IfK.mk (fun _ => ?_) (fun _ => ?_) <;> ((with_reducible conv => whnf); (with_reducible conv => congr <;> reduce); repeat ((first | (with_reducible refine HaltK.mk ?_) | (with_reducible refine StopK.mk ?_)); (with_reducible conv => whnf); (with_reducible conv => congr <;> reduce)))))
    | ((with_reducible show CallK _ _ 36 _ _ _ _); refine CallK.lit [] (f36_ok _) c36 ⟨rfl, trivial⟩ rfl rfl ?_; ((with_reducible conv => whnf); (with_reducible conv => congr <;> reduce); repeat ((first | (with_reducible refine HaltK.mk ?_) | (with_reducible refine StopK.mk ?_)); (with_reducible conv => whnf); (with_reducible conv => congr <;> reduce))))
    | ((with_reducible show CallK _ _ 23 _ _ _ _); refine CallK.lit [] (f23_ok _ (right_small (by assumption))) c23 ⟨rfl, trivial⟩ rfl rfl ?_; ((with_reducible conv => whnf); (with_reducible conv => congr <;> reduce); repeat ((first | (with_reducible refine HaltK.mk ?_) | (with_reducible refine StopK.mk ?_)); (with_reducible conv => whnf); (with_reducible conv => congr <;> reduce))))
    | ((with_reducible show (_ ∧ _) ∧ _ ∧ _); refine ⟨⟨rfl, rfl⟩, ?_, ?_⟩ <;> (with_reducible conv => whnf) <;> repeat' (first | (with_reducible exact trivial) | (with_reducible refine And.intro ?_ ?_ <;> with_reducible conv => whnf))))
  all_goals simp_all
/-- What a byte must be, by place. -/
def okAt (i : Nat) (b : UInt8) : Bool := (smallC (b.toNat : Int) || capC (b.toNat : Int)) || decide ((b.toNat : Int) = 95) || (decide (0 < i) && signB b)
theorem rightL_at {l : List UInt8} (h1 : 1 ≤ l.length) (h2 : l.length ≤ 40) : rightL l = true ↔ ∀ i b, l[i]? = some b → okAt i b = true := by
  unfold rightL
  rw [decide_eq_true h1, decide_eq_true h2]
  simp only [Bool.true_and, Bool.and_eq_true, List.all_eq_true]
  constructor
  · rintro ⟨ha, hf⟩ i b hb
    cases l with
    | nil => simp at h1
    | cons c r =>
      cases i with
      | zero =>
        simp at hb; subst hb
        simp only [firstB] at hf
        simp [okAt, hf]
      | succ i =>
        have := ha b (List.mem_of_getElem? hb)
        simp [okAt, this]
  · intro h
    refine ⟨fun b hb => ?_, ?_⟩
    · obtain ⟨i, hi⟩ := List.getElem?_of_mem hb
      have := h i b hi
      simp only [okAt, signB, signC, smallC, capC, Bool.or_eq_true, Bool.and_eq_true, decide_eq_true_eq] at this ⊢
      omega
    · cases l with
      | nil => simp at h1
      | cons c r =>
        have := h 0 c rfl
        simpa [okAt, firstB] using this
end Go.Proofs.Attr
end
section
namespace Go.Proofs.Attr
open Go.Am Go.RowKit Go.Lib
set_option maxRecDepth 100000
set_option maxHeartbeats 0 in
theorem f25_ok (s : ByteArray) : FnOK Try.prog 25 [] [eStr s] [] (eBool (rightS s)) := by
  have hsz : s.size = s.data.toList.length := size_len s
  refine FnOK.startC (rvs := [.tmp 2]) G G_good Try.func25 rfl Try.ntmps25 rfl rfl ?_; delta List.toArray; ((with_reducible conv => whnf); (with_reducible conv => congr <;> reduce); repeat ((first | (with_reducible refine HaltK.mk ?_) | (with_reducible refine StopK.mk ?_)); (with_reducible conv => whnf); (with_reducible conv => congr <;> reduce)))
  repeat' (first
    | ((with_reducible show IfK _ _ _ _); first
      | (refine IfK.yes (by assumption) ?_; ((with_reducible conv => whnf); (with_reducible conv => congr <;> reduce); repeat ((first | (with_reducible refine HaltK.mk ?_) | (with_reducible refine StopK.mk ?_)); (with_reducible conv => whnf); (with_reducible conv => congr <;> reduce))))
      | (refine IfK.no (by assumption) ?_; ((with_reducible conv => whnf); (with_reducible conv => congr <;> reduce); repeat ((first | (with_reducible refine HaltK.mk ?_) | (with_reducible refine StopK.mk ?_)); (with_reducible conv => whnf); (with_reducible conv => congr <;> reduce))))
      | (with_reducible refine IfK.yes Bool.not_false ?_; ((with_reducible conv => whnf); (with_reducible conv => congr <;> reduce); repeat ((first | (with_reducible refine HaltK.mk ?_) | (with_reducible refine StopK.mk ?_)); (with_reducible conv => whnf); (with_reducible conv => congr <;> reduce))))
      | (with_reducible refine IfK.no Bool.not_true ?_; ((with_reducible conv => whnf); (with_reducible conv => congr <;> reduce); repeat ((first | (with_reducible refine HaltK.mk ?_) | (with_reducible refine StopK.mk ?_)); (with_reducible conv => whnf); (with_reducible conv => congr <;> reduce))))
      | (with_reducible refine IfK.yes (nf (by assumption)) ?_; ((with_reducible conv => whnf); (with_reducible conv => congr <;> reduce); repeat ((first | (with_reducible refine HaltK.mk ?_) | (with_reducible refine StopK.mk ?_)); (with_reducible conv => whnf); (with_reducible conv => congr <;> reduce))))
      | (with_reducible refine IfK.no (nt (by assumption)) ?_; ((with_reducible conv => whnf); (with_reducible conv => congr <;> reduce); repeat ((first | (with_reducible refine HaltK.mk ?_) | (with_reducible refine StopK.mk ?_)); (with_reducible conv => whnf); (with_reducible conv => congr <;> reduce))))
      | (with_reducible refine IfK.tt ?_; ((with_reducible conv => whnf); (with_reducible conv => congr <;> reduce); repeat ((first | (with_reducible refine HaltK.mk ?_) | (with_reducible refine StopK.mk ?_)); (with_reducible conv => whnf); (with_reducible conv => congr <;> reduce))))
      | (with_reducible refine IfK.ff ?_; ((with_reducible conv => whnf); (with_reducible conv => congr <;> reduce); repeat ((first | (with_reducible refine HaltK.mk ?_) | (with_reducible refine StopK.mk ?_)); (with_reducible conv => whnf); (with_reducible conv => congr <;> reduce))))
      | (refine IfK.mk (fun _ => ?_) (fun _ => ?_) <;> ((with_reducible conv => whnf); (with_reducible conv => congr <;> reduce); repeat ((first | (with_reducible refine HaltK.mk ?_) | (with_reducible refine StopK.mk ?_)); (with_reducible conv => whnf); (with_reducible conv => congr <;> reduce)))))
    | ((with_reducible show (_ ∧ _) ∧ _ ∧ _); refine ⟨⟨rfl, rfl⟩, ?_, ?_⟩ <;> (with_reducible conv => whnf) <;> repeat' (first | (with_reducible exact trivial) | (with_reducible refine And.intro ?_ ?_ <;> with_reducible conv => whnf))))
  all_goals (simp only [decide_eq_true_eq, decide_eq_false_iff_not, hsz] at *)
  · unfold rightS rightL
    rw [show decide (1 ≤ s.data.toList.length) = false from decide_eq_false (by omega)]; rfl
  · unfold rightS rightL
    rw [show decide (s.data.toList.length ≤ 40) = false from decide_eq_false (by omega)]; simp
  · have hr := rightL_at (l := s.data.toList) (by omega) (by omega)
    refine LoopK.use G G_good (fun (k : Nat) => [(0, eStr s), (3, eInt k)]) (fun _ => []) (fun k => k ≤ s.data.toList.length ∧ ∀ i b, i < k → s.data.toList[i]? = some b → okAt i b = true) (fun k => s.data.toList.length - k) 0 ⟨Nat.zero_le _, fun i _ h => by omega⟩ ⟨⟨rfl, rfl⟩, ⟨rfl, rfl, trivial⟩, trivial⟩ ?_
    rintro k ⟨hk, hok⟩
    ((with_reducible conv => whnf); (with_reducible conv => congr <;> reduce); repeat ((first | (with_reducible refine HaltK.mk ?_) | (with_reducible refine StopK.mk ?_)); (with_reducible conv => whnf); (with_reducible conv => congr <;> reduce)))
    refine IfK.mk (fun h1 => ?_) (fun h1 => ?_) <;> (try simp only [castN] at h1) <;> ((with_reducible conv => whnf); (with_reducible conv => congr <;> reduce); repeat ((first | (with_reducible refine HaltK.mk ?_) | (with_reducible refine StopK.mk ?_)); (with_reducible conv => whnf); (with_reducible conv => congr <;> reduce)))
    · simp only [decide_eq_true_eq] at h1
      have hk' : k < s.data.toList.length := by rw [← size_len s]; omega
      obtain ⟨b, hb⟩ : ∃ b, s.data.toList[k]? = some b := ⟨_, List.getElem?_eq_getElem hk'⟩
      refine IdxSK.mk k b rfl hb ?_; ((with_reducible conv => whnf); (with_reducible conv => congr <;> reduce); repeat ((first | (with_reducible refine HaltK.mk ?_) | (with_reducible refine StopK.mk ?_)); (with_reducible conv => whnf); (with_reducible conv => congr <;> reduce)))
      have next : okAt k b = true → ∀ i c, i < k + 1 → s.data.toList[i]? = some c → okAt i c = true := by
        intro h i c hi hc
        rcases Nat.lt_or_ge i k with h6 | h6
        · exact hok i c h6 hc
        · have : i = k := by omega
          subst this
          rw [hb] at hc; cases hc; exact h
      have no : okAt k b = false → rightS s = false := by
        intro h
        cases h' : rightS s with
        | false => rfl
        | true => rw [hr.1 h' k b hb] at h; cases h
      have hb256 : b.toNat < 256 := UInt8.toNat_lt b
      obtain ⟨c, hcb⟩ : ∃ c : Int, (b.toNat : Int) = c := ⟨_, rfl⟩
      have hc : (0 ≤ c ∧ c ≤ 44) ∨ (45 ≤ c ∧ c ≤ 45) ∨ (46 ≤ c ∧ c ≤ 46) ∨ (47 ≤ c ∧ c ≤ 47) ∨ (48 ≤ c ∧ c ≤ 57) ∨ (58 ≤ c ∧ c ≤ 64) ∨ (65 ≤ c ∧ c ≤ 90) ∨ (91 ≤ c ∧ c ≤ 94) ∨ (95 ≤ c ∧ c ≤ 95) ∨ (96 ≤ c ∧ c ≤ 96) ∨ (97 ≤ c ∧ c ≤ 122) ∨ (123 ≤ c ∧ c ≤ 255) := by omega
      have hok' : okAt k b = ((decide (97 ≤ c) && decide (c ≤ 122) || decide (65 ≤ c) && decide (c ≤ 90)) || decide (c = 95) || (decide (0 < k) && ((decide (97 ≤ c) && decide (c ≤ 122)) || (decide (65 ≤ c) && decide (c ≤ 90)) || (decide (48 ≤ c) && decide (c ≤ 57)) || decide (c = 45) || decide (c = 95) || decide (c = 46)))) := by
        simp only [okAt, signB, signC, smallC, capC, hcb]
      simp only [hcb]
      have n1 : (!false) = true := rfl
      have n2 : (!true) = false := rfl
      obtain ⟨K0, hK0⟩ : ∃ K0, decide ((k : Int) = 0) = K0 := ⟨_, rfl⟩
      have hk0 : decide (0 < k) = !K0 := by rw [← hK0]; rcases Nat.eq_zero_or_pos k with h | h
                                            · subst h; rfl
                                            · rw [decide_eq_true h, decide_eq_false (by omega)]; rfl
      rw [hk0] at hok'
      rcases hc with ⟨u1, u2⟩ | ⟨u1, u2⟩ | ⟨u1, u2⟩ | ⟨u1, u2⟩ | ⟨u1, u2⟩ | ⟨u1, u2⟩ | ⟨u1, u2⟩ | ⟨u1, u2⟩ | ⟨u1, u2⟩ | ⟨u1, u2⟩ | ⟨u1, u2⟩ | ⟨u1, u2⟩
      · have e0 : decide (97 ≤ c) = false := decide_eq_false (by omega)
        have e1 : decide (c ≤ 122) = true := decide_eq_true (by omega)
        have e2 : decide (65 ≤ c) = false := decide_eq_false (by omega)
        have e3 : decide (c ≤ 90) = true := decide_eq_true (by omega)
        have e4 : decide (48 ≤ c) = false := decide_eq_false (by omega)
        have e5 : decide (c ≤ 57) = true := decide_eq_true (by omega)
        have e6 : decide (c = 45) = false := decide_eq_false (by omega)
        have e7 : decide (c = 46) = false := decide_eq_false (by omega)
        have e8 : decide (c = 95) = false := decide_eq_false (by omega)
        have e9 : (!decide (c = 95)) = true := by rw [e8]; rfl
        have f5 : (!decide (c ≤ 57)) = !(decide (c ≤ 57)) := rfl
        rw [e5] at f5
        have f6 : (!decide (c = 45)) = !(decide (c = 45)) := rfl
        rw [e6] at f6
        have f7 : (!decide (c = 46)) = !(decide (c = 46)) := rfl
        rw [e7] at f7
        simp only [Bool.not_true, Bool.not_false] at f5
        simp only [Bool.not_true, Bool.not_false] at f6
        simp only [Bool.not_true, Bool.not_false] at f7
        simp only [e0, e1, e2, e3, e4, e5, e6, e7, e8, Bool.and_true, Bool.true_and, Bool.and_false, Bool.false_and, Bool.or_true, Bool.true_or, Bool.or_false, Bool.false_or] at hok'
        cases K0
        all_goals (try simp only [Bool.not_true, Bool.not_false] at hok')
        repeat' (first
    | ((with_reducible show IfK _ _ _ _); first
      | (refine IfK.yes (by assumption) ?_; ((with_reducible conv => whnf); (with_reducible conv => congr <;> reduce); repeat ((first | (with_reducible refine HaltK.mk ?_) | (with_reducible refine StopK.mk ?_)); (with_reducible conv => whnf); (with_reducible conv => congr <;> reduce))))
      | (refine IfK.no (by assumption) ?_; ((with_reducible conv => whnf); (with_reducible conv => congr <;> reduce); repeat ((first | (with_reducible refine HaltK.mk ?_) | (with_reducible refine StopK.mk ?_)); (with_reducible conv => whnf); (with_reducible conv => congr <;> reduce))))
      | (with_reducible refine IfK.yes Bool.not_false ?_; ((with_reducible conv => whnf); (with_reducible conv => congr <;> reduce); repeat ((first | (with_reducible refine HaltK.mk ?_) | (with_reducible refine StopK.mk ?_)); (with_reducible conv => whnf); (with_reducible conv => congr <;> reduce))))
      | (with_reducible refine IfK.no Bool.not_true ?_; ((with_reducible conv => whnf); (with_reducible conv => congr <;> reduce); repeat ((first | (with_reducible refine HaltK.mk ?_) | (with_reducible refine StopK.mk ?_)); (with_reducible conv => whnf); (with_reducible conv => congr <;> reduce))))
      | (with_reducible refine IfK.yes (nf (by assumption)) ?_; ((with_reducible conv => whnf); (with_reducible conv => congr <;> reduce); repeat ((first | (with_reducible refine HaltK.mk ?_) | (with_reducible refine StopK.mk ?_)); (with_reducible conv => whnf); (with_reducible conv => congr <;> reduce))))
      | (with_reducible refine IfK.no (nt (by assumption)) ?_; ((with_reducible conv => whnf); (with_reducible conv => congr <;> reduce); repeat ((first | (with_reducible refine HaltK.mk ?_) | (with_reducible refine StopK.mk ?_)); (with_reducible conv => whnf); (with_reducible conv => congr <;> reduce))))
      | (with_reducible refine IfK.tt ?_; ((with_reducible conv => whnf); (with_reducible conv => congr <;> reduce); repeat ((first | (with_reducible refine HaltK.mk ?_) | (with_reducible refine StopK.mk ?_)); (with_reducible conv => whnf); (with_reducible conv => congr <;> reduce))))
      | (with_reducible refine IfK.ff ?_; ((with_reducible conv => whnf); (with_reducible conv => congr <;> reduce); repeat ((first | (with_reducible refine HaltK.mk ?_) | (with_reducible refine StopK.mk ?_)); (with_reducible conv => whnf); (with_reducible conv => congr <;> reduce))))
      | (refine IfK.mk (fun _ => ?_) (fun _ => ?_) <;> ((with_reducible conv => whnf); (with_reducible conv => congr <;> reduce); repeat ((first | (with_reducible refine HaltK.mk ?_) | (with_reducible refine StopK.mk ?_)); (with_reducible conv => whnf); (with_reducible conv => congr <;> reduce)))))
    | ((with_reducible show NeedK _ _ _ _); refine NeedK.mk (by (try simp only [castN]); omega) ?_; ((with_reducible conv => whnf); (with_reducible conv => congr <;> reduce); repeat ((first | (with_reducible refine HaltK.mk ?_) | (with_reducible refine StopK.mk ?_)); (with_reducible conv => whnf); (with_reducible conv => congr <;> reduce))))
    | ((with_reducible show NextK _ _); refine NextK.mk (k + 1) ⟨by omega, next ?_⟩ (by omega) ⟨⟨rfl, rfl⟩, ⟨rfl, by show ((k + 1 : Nat) : Int) = (k : Int) + 1; omega, trivial⟩, trivial⟩)
    | ((with_reducible show (_ ∧ _) ∧ _ ∧ _); refine ⟨⟨rfl, rfl⟩, ?_, ?_⟩ <;> (with_reducible conv => whnf) <;> repeat' (first | (with_reducible exact trivial) | (with_reducible refine And.intro ?_ ?_ <;> with_reducible conv => whnf))))
        all_goals first
          | exact no hok'
          | exact hok'
          | trace_state
      · have e0 : decide (97 ≤ c) = false := decide_eq_false (by omega)
        have e1 : decide (c ≤ 122) = true := decide_eq_true (by omega)
        have e2 : decide (65 ≤ c) = false := decide_eq_false (by omega)
        have e3 : decide (c ≤ 90) = true := decide_eq_true (by omega)
        have e4 : decide (48 ≤ c) = false := decide_eq_false (by omega)
        have e5 : decide (c ≤ 57) = true := decide_eq_true (by omega)
        have e6 : decide (c = 45) = true := decide_eq_true (by omega)
        have e7 : decide (c = 46) = false := decide_eq_false (by omega)
        have e8 : decide (c = 95) = false := decide_eq_false (by omega)
        have e9 : (!decide (c = 95)) = true := by rw [e8]; rfl
        have f5 : (!decide (c ≤ 57)) = !(decide (c ≤ 57)) := rfl
        rw [e5] at f5
        have f6 : (!decide (c = 45)) = !(decide (c = 45)) := rfl
        rw [e6] at f6
        have f7 : (!decide (c = 46)) = !(decide (c = 46)) := rfl
        rw [e7] at f7
        simp only [Bool.not_true, Bool.not_false] at f5
        simp only [Bool.not_true, Bool.not_false] at f6
        simp only [Bool.not_true, Bool.not_false] at f7
        simp only [e0, e1, e2, e3, e4, e5, e6, e7, e8, Bool.and_true, Bool.true_and, Bool.and_false, Bool.false_and, Bool.or_true, Bool.true_or, Bool.or_false, Bool.false_or] at hok'
        cases K0
        all_goals (try simp only [Bool.not_true, Bool.not_false] at hok')
        repeat' (first
    | ((with_reducible show IfK _ _ _ _); first
      | (refine IfK.yes (by assumption) ?_; ((with_reducible conv => whnf); (with_reducible conv => congr <;> reduce); repeat ((first | (with_reducible refine HaltK.mk ?_) | (with_reducible refine StopK.mk ?_)); (with_reducible conv => whnf); (with_reducible conv => congr <;> reduce))))
      | (refine IfK.no (by assumption) ?_; ((with_reducible conv => whnf); (with_reducible conv => congr <;> reduce); repeat ((first | (with_reducible refine HaltK.mk ?_) | (with_reducible refine StopK.mk ?_)); (with_reducible conv => whnf); (with_reducible conv => congr <;> reduce))))
      | (with_reducible refine IfK.yes Bool.not_false ?_; ((with_reducible conv => whnf); (with_reducible conv => congr <;> reduce); repeat ((first | (with_reducible refine HaltK.mk ?_) | (with_reducible refine StopK.mk ?_)); (with_reducible conv => whnf); (with_reducible conv => congr <;> reduce))))
      | (with_reducible refine IfK.no Bool.not_true ?_; ((with_reducible conv => whnf); (with_reducible conv => congr <;> reduce); repeat ((first | (with_reducible refine HaltK.mk ?_) | (with_reducible refine StopK.mk ?_)); (with_reducible conv => whnf); (with_reducible conv => congr <;> reduce))))
      | (with_reducible refine IfK.yes (nf (by assumption)) ?_; ((with_reducible conv => whnf); (with_reducible conv => congr <;> reduce); repeat ((first | (with_reducible refine HaltK.mk ?_) | (with_reducible refine StopK.mk ?_)); (with_reducible conv => whnf); (with_reducible conv => congr <;> reduce))))
      | (with_reducible refine IfK.no (nt (by assumption)) ?_; ((with_reducible conv => whnf); (with_reducible conv => congr <;> reduce); repeat ((first | (with_reducible refine HaltK.mk ?_) | (with_reducible refine StopK.mk ?_)); (with_reducible conv => whnf); (with_reducible conv => congr <;> reduce))))
      | (with_reducible refine IfK.tt ?_; ((with_reducible conv => whnf); (with_reducible conv => congr <;> reduce); repeat ((first | (with_reducible refine HaltK.mk ?_) | (with_reducible refine StopK.mk ?_)); (with_reducible conv => whnf); (with_reducible conv => congr <;> reduce))))
      | (with_reducible refine IfK.ff ?_; ((with_reducible conv => whnf); (with_reducible conv => congr <;> reduce); repeat ((first | (with_reducible refine HaltK.mk ?_) | (with_reducible refine StopK.mk ?_)); (with_reducible conv => whnf); (with_reducible conv => congr <;> reduce))))
      | (refine IfK.mk (fun _ => ?_) (fun _ => ?_) <;> ((with_reducible conv => whnf); (with_reducible conv => congr <;> reduce); repeat ((first | (with_reducible refine HaltK.mk ?_) | (with_reducible refine StopK.mk ?_)); (with_reducible conv => whnf); (with_reducible conv => congr <;> reduce)))))
    | ((with_reducible show NeedK _ _ _ _); refine NeedK.mk (by (try simp only [castN]); omega) ?_; ((with_reducible conv => whnf); (with_reducible conv => congr <;> reduce); repeat ((first | (with_reducible refine HaltK.mk ?_) | (with_reducible refine StopK.mk ?_)); (with_reducible conv => whnf); (with_reducible conv => congr <;> reduce))))
    | ((with_reducible show NextK _ _); refine NextK.mk (k + 1) ⟨by omega, next ?_⟩ (by omega) ⟨⟨rfl, rfl⟩, ⟨rfl, by show ((k + 1 : Nat) : Int) = (k : Int) + 1; omega, trivial⟩, trivial⟩)
    | ((with_reducible show (_ ∧ _) ∧ _ ∧ _); refine ⟨⟨rfl, rfl⟩, ?_, ?_⟩ <;> (with_reducible conv => whnf) <;> repeat' (first | (with_reducible exact trivial) | (with_reducible refine And.intro ?_ ?_ <;> with_reducible conv => whnf))))
        all_goals first
          | exact no hok'
          | exact hok'
          | trace_state
      · have e0 : decide (97 ≤ c) = false := decide_eq_false (by omega)
        have e1 : decide (c ≤ 122) = true := decide_eq_true (by omega)
        have e2 : decide (65 ≤ c) = false := decide_eq_false (by omega)
        have e3 : decide (c ≤ 90) = true := decide_eq_true (by omega)
        have e4 : decide (48 ≤ c) = false := decide_eq_false (by omega)
        have e5 : decide (c ≤ 57) = true := decide_eq_true (by omega)
        have e6 : decide (c = 45) = false := decide_eq_false (by omega)
        have e7 : decide (c = 46) = true := decide_eq_true (by omega)
        have e8 : decide (c = 95) = false := decide_eq_false (by omega)
        have e9 : (!decide (c = 95)) = true := by rw [e8]; rfl
        have f5 : (!decide (c ≤ 57)) = !(decide (c ≤ 57)) := rfl
        rw [e5] at f5
        have f6 : (!decide (c = 45)) = !(decide (c = 45)) := rfl
        rw [e6] at f6
        have f7 : (!decide (c = 46)) = !(decide (c = 46)) := rfl
        rw [e7] at f7
        simp only [Bool.not_true, Bool.not_false] at f5
        simp only [Bool.not_true, Bool.not_false] at f6
        simp only [Bool.not_true, Bool.not_false] at f7
        simp only [e0, e1, e2, e3, e4, e5, e6, e7, e8, Bool.and_true, Bool.true_and, Bool.and_false, Bool.false_and, Bool.or_true, Bool.true_or, Bool.or_false, Bool.false_or] at hok'
        cases K0
        all_goals (try simp only [Bool.not_true, Bool.not_false] at hok')
        repeat' (first
    | ((with_reducible show IfK _ _ _ _); first
      | (refine IfK.yes (by assumption) ?_; ((with_reducible conv => whnf); (with_reducible conv => congr <;> reduce); repeat ((first | (with_reducible refine HaltK.mk ?_) | (with_reducible refine StopK.mk ?_)); (with_reducible conv => whnf); (with_reducible conv => congr <;> reduce))))
      | (refine IfK.no (by assumption) ?_; ((with_reducible conv => whnf); (with_reducible conv => congr <;> reduce); repeat ((first | (with_reducible refine HaltK.mk ?_) | (with_reducible refine StopK.mk ?_)); (with_reducible conv => whnf); (with_reducible conv => congr <;> reduce))))
      | (with_reducible refine IfK.yes Bool.not_false ?_; ((with_reducible conv => whnf); (with_reducible conv => congr <;> reduce); repeat ((first | (with_reducible refine HaltK.mk ?_) | (with_reducible refine StopK.mk ?_)); (with_reducible conv => whnf); (with_reducible conv => congr <;> reduce))))
      | (with_reducible refine IfK.no Bool.not_true ?_; ((with_reducible conv => whnf); (with_reducible conv => congr <;> reduce); repeat ((first | (with_reducible refine HaltK.mk ?_) | (with_reducible refine StopK.mk ?_)); (with_reducible conv => whnf); (with_reducible conv => congr <;> reduce))))
      | (with_reducible refine IfK.yes (nf (by assumption)) ?_; ((with_reducible conv => whnf); (with_reducible conv => congr <;> reduce); repeat ((first | (with_reducible refine HaltK.mk ?_) | (with_reducible refine StopK.mk ?_)); (with_reducible conv => whnf); (with_reducible conv => congr <;> reduce))))
      | (with_reducible refine IfK.no (nt (by assumption)) ?_; ((with_reducible conv => whnf); (with_reducible conv => congr <;> reduce); repeat ((first | (with_reducible refine HaltK.mk ?_) | (with_reducible refine StopK.mk ?_)); (with_reducible conv => whnf); (with_reducible conv => congr <;> reduce))))
      | (with_reducible refine IfK.tt ?_; ((with_reducible conv => whnf); (with_reducible conv => congr <;> reduce); repeat ((first | (with_reducible refine HaltK.mk ?_) | (with_reducible refine StopK.mk ?_)); (with_reducible conv => whnf); (with_reducible conv => congr <;> reduce))))
      | (with_reducible refine IfK.ff ?_; ((with_reducible conv => whnf); (with_reducible conv => congr <;> reduce); repeat ((first | (with_reducible refine HaltK.mk ?_) | (with_reducible refine StopK.mk ?_)); (with_reducible conv => whnf); (with_reducible conv => congr <;> reduce))))
      | (refine IfK.mk (fun _ => ?_) (fun _ => ?_) <;> ((with_reducible conv => whnf); (with_reducible conv => congr <;> reduce); repeat ((first | (with_reducible refine HaltK.mk ?_) | (with_reducible refine StopK.mk ?_)); (with_reducible conv => whnf); (with_reducible conv => congr <;> reduce)))))
    | ((with_reducible show NeedK _ _ _ _); refine NeedK.mk (by (try simp only [castN]); omega) ?_; ((with_reducible conv => whnf); (with_reducible conv => congr <;> reduce); repeat ((first | (with_reducible refine HaltK.mk ?_) | (with_reducible refine StopK.mk ?_)); (with_reducible conv => whnf); (with_reducible conv => congr <;> reduce))))
    | ((with_reducible show NextK _ _); refine NextK.mk (k + 1) ⟨by omega, next ?_⟩ (by omega) ⟨⟨rfl, rfl⟩, ⟨rfl, by show ((k + 1 : Nat) : Int) = (k : Int) + 1; omega, trivial⟩, trivial⟩)
    | ((with_reducible show (_ ∧ _) ∧ _ ∧ _); refine ⟨⟨rfl, rfl⟩, ?_, ?_⟩ <;> (with_reducible conv => whnf) <;> repeat' (first | (with_reducible exact trivial) | (with_reducible refine And.intro ?_ ?_ <;> with_reducible conv => whnf))))
        all_goals first
          | exact no hok'
          | exact hok'
          | trace_state
      · have e0 : decide (97 ≤ c) = false := decide_eq_false (by omega)
        have e1 : decide (c ≤ 122) = true := decide_eq_true (by omega)
        have e2 : decide (65 ≤ c) = false := decide_eq_false (by omega)
        have e3 : decide (c ≤ 90) = true := decide_eq_true (by omega)
        have e4 : decide (48 ≤ c) = false := decide_eq_false (by omega)
        have e5 : decide (c ≤ 57) = true := decide_eq_true (by omega)
        have e6 : decide (c = 45) = false := decide_eq_false (by omega)
        have e7 : decide (c = 46) = false := decide_eq_false (by omega)
        have e8 : decide (c = 95) = false := decide_eq_false (by omega)
        have e9 : (!decide (c = 95)) = true := by rw [e8]; rfl
        have f5 : (!decide (c ≤ 57)) = !(decide (c ≤ 57)) := rfl
        rw [e5] at f5
        have f6 : (!decide (c = 45)) = !(decide (c = 45)) := rfl
        rw [e6] at f6
        have f7 : (!decide (c = 46)) = !(decide (c = 46)) := rfl
        rw [e7] at f7
        simp only [Bool.not_true, Bool.not_false] at f5
        simp only [Bool.not_true, Bool.not_false] at f6
        simp only [Bool.not_true, Bool.not_false] at f7
        simp only [e0, e1, e2, e3, e4, e5, e6, e7, e8, Bool.and_true, Bool.true_and, Bool.and_false, Bool.false_and, Bool.or_true, Bool.true_or, Bool.or_false, Bool.false_or] at hok'
        cases K0
        all_goals (try simp only [Bool.not_true, Bool.not_false] at hok')
        repeat' (first
    | ((with_reducible show IfK _ _ _ _); first
      | (refine IfK.yes (by assumption) ?_; ((with_reducible conv => whnf); (with_reducible conv => congr <;> reduce); repeat ((first | (with_reducible refine HaltK.mk ?_) | (with_reducible refine StopK.mk ?_)); (with_reducible conv => whnf); (with_reducible conv => congr <;> reduce))))
      | (refine IfK.no (by assumption) ?_; ((with_reducible conv => whnf); (with_reducible conv => congr <;> reduce); repeat ((first | (with_reducible refine HaltK.mk ?_) | (with_reducible refine StopK.mk ?_)); (with_reducible conv => whnf); (with_reducible conv => congr <;> reduce))))
      | (with_reducible refine IfK.yes Bool.not_false ?_; ((with_reducible conv => whnf); (with_reducible conv => congr <;> reduce); repeat ((first | (with_reducible refine HaltK.mk ?_) | (with_reducible refine StopK.mk ?_)); (with_reducible conv => whnf); (with_reducible conv => congr <;> reduce))))
      | (with_reducible refine IfK.no Bool.not_true ?_; ((with_reducible conv => whnf); (with_reducible conv => congr <;> reduce); repeat ((first | (with_reducible refine HaltK.mk ?_) | (with_reducible refine StopK.mk ?_)); (with_reducible conv => whnf); (with_reducible conv => congr <;> reduce))))
      | (with_reducible refine IfK.yes (nf (by assumption)) ?_; ((with_reducible conv => whnf); (with_reducible conv => congr <;> reduce); repeat ((first | (with_reducible refine HaltK.mk ?_) | (with_reducible refine StopK.mk ?_)); (with_reducible conv => whnf); (with_reducible conv => congr <;> reduce))))
      | (with_reducible refine IfK.no (nt (by assumption)) ?_; ((with_reducible conv => whnf); (with_reducible conv => congr <;> reduce); repeat ((first | (with_reducible refine HaltK.mk ?_) | (with_reducible refine StopK.mk ?_)); (with_reducible conv => whnf); (with_reducible conv => congr <;> reduce))))
      | (with_reducible refine IfK.tt ?_; ((with_reducible conv => whnf); (with_reducible conv => congr <;> reduce); repeat ((first | (with_reducible refine HaltK.mk ?_) | (with_reducible refine StopK.mk ?_)); (with_reducible conv => whnf); (with_reducible conv => congr <;> reduce))))
      | (with_reducible refine IfK.ff ?_; ((with_reducible conv => whnf); (with_reducible conv => congr <;> reduce); repeat ((first | (with_reducible refine HaltK.mk ?_) | (with_reducible refine StopK.mk ?_)); (with_reducible conv => whnf); (with_reducible conv => congr <;> reduce))))
      | (refine IfK.mk (fun _ => ?_) (fun _ => ?_) <;> ((with_reducible conv => whnf); (with_reducible conv => congr <;> reduce); repeat ((first | (with_reducible refine HaltK.mk ?_) | (with_reducible refine StopK.mk ?_)); (with_reducible conv => whnf); (with_reducible conv => congr <;> reduce)))))
    | ((with_reducible show NeedK _ _ _ _); refine NeedK.mk (by (try simp only [castN]); omega) ?_; ((with_reducible conv => whnf); (with_reducible conv => congr <;> reduce); repeat ((first | (with_reducible refine HaltK.mk ?_) | (with_reducible refine StopK.mk ?_)); (with_reducible conv => whnf); (with_reducible conv => congr <;> reduce))))
    | ((with_reducible show NextK _ _); refine NextK.mk (k + 1) ⟨by omega, next ?_⟩ (by omega) ⟨⟨rfl, rfl⟩, ⟨rfl, by show ((k + 1 : Nat) : Int) = (k : Int) + 1; omega, trivial⟩, trivial⟩)
    | ((with_reducible show (_ ∧ _) ∧ _ ∧ _); refine ⟨⟨rfl, rfl⟩, ?_, ?_⟩ <;> (with_reducible conv => whnf) <;> repeat' (first | (with_reducible exact trivial) | (with_reducible refine And.intro ?_ ?_ <;> with_reducible conv => whnf))))
        all_goals first
          | exact no hok'
          | exact hok'
          | trace_state
      · have e0 : decide (97 ≤ c) = false := decide_eq_false (by omega)
        have e1 : decide (c ≤ 122) = true := decide_eq_true (by omega)
        have e2 : decide (65 ≤ c) = false := decide_eq_false (by omega)
        have e3 : decide (c ≤ 90) = true := decide_eq_true (by omega)
        have e4 : decide (48 ≤ c) = true := decide_eq_true (by omega)
        have e5 : decide (c ≤ 57) = true := decide_eq_true (by omega)
        have e6 : decide (c = 45) = false := decide_eq_false (by omega)
        have e7 : decide (c = 46) = false := decide_eq_false (by omega)
        have e8 : decide (c = 95) = false := decide_eq_false (by omega)
        have e9 : (!decide (c = 95)) = true := by rw [e8]; rfl
        have f5 : (!decide (c ≤ 57)) = !(decide (c ≤ 57)) := rfl
        rw [e5] at f5
        have f6 : (!decide (c = 45)) = !(decide (c = 45)) := rfl
        rw [e6] at f6
        have f7 : (!decide (c = 46)) = !(decide (c = 46)) := rfl
        rw [e7] at f7
        simp only [Bool.not_true, Bool.not_false] at f5
        simp only [Bool.not_true, Bool.not_false] at f6
        simp only [Bool.not_true, Bool.not_false] at f7
        simp only [e0, e1, e2, e3, e4, e5, e6, e7, e8, Bool.and_true, Bool.true_and, Bool.and_false, Bool.false_and, Bool.or_true, Bool.true_or, Bool.or_false, Bool.false_or] at hok'
        cases K0
        all_goals (try simp only [Bool.not_true, Bool.not_false] at hok')
        repeat' (first
    | ((with_reducible show IfK _ _ _ _); first
      | (refine IfK.yes (by assumption) ?_; ((with_reducible conv => whnf); (with_reducible conv => congr <;> reduce); repeat ((first | (with_reducible refine HaltK.mk ?_) | (with_reducible refine StopK.mk ?_)); (with_reducible conv => whnf); (with_reducible conv => congr <;> reduce))))
      | (refine IfK.no (by assumption) ?_; ((with_reducible conv => whnf); (with_reducible conv => congr <;> reduce); repeat ((first | (with_reducible refine HaltK.mk ?_) | (with_reducible refine StopK.mk ?_)); (with_reducible conv => whnf); (with_reducible conv => congr <;> reduce))))
      | (with_reducible refine IfK.yes Bool.not_false ?_; ((with_reducible conv => whnf); (with_reducible conv => congr <;> reduce); repeat ((first | (with_reducible refine HaltK.mk ?_) | (with_reducible refine StopK.mk ?_)); (with_reducible conv => whnf); (with_reducible conv => congr <;> reduce))))
      | (with_reducible refine IfK.no Bool.not_true ?_; ((with_reducible conv => whnf); (with_reducible conv => congr <;> reduce); repeat ((first | (with_reducible refine HaltK.mk ?_) | (with_reducible refine StopK.mk ?_)); (with_reducible conv => whnf); (with_reducible conv => congr <;> reduce))))
      | (with_reducible refine IfK.yes (nf (by assumption)) ?_; ((with_reducible conv => whnf); (with_reducible conv => congr <;> reduce); repeat ((first | (with_reducible refine HaltK.mk ?_) | (with_reducible refine StopK.mk ?_)); (with_reducible conv => whnf); (with_reducible conv => congr <;> reduce))))
      | (with_reducible refine IfK.no (nt (by assumption)) ?_; ((with_reducible conv => whnf); (with_reducible conv => congr <;> reduce); repeat ((first | (with_reducible refine HaltK.mk ?_) | (with_reducible refine StopK.mk ?_)); (with_reducible conv => whnf); (with_reducible conv => congr <;> reduce))))
      | (with_reducible refine IfK.tt ?_; ((with_reducible conv => whnf); (with_reducible conv => congr <;> reduce); repeat ((first | (with_reducible refine HaltK.mk ?_) | (with_reducible refine StopK.mk ?_)); (with_reducible conv => whnf); (with_reducible conv => congr <;> reduce))))
      | (with_reducible refine IfK.ff ?_; ((with_reducible conv => whnf); (with_reducible conv => congr <;> reduce); repeat ((first | (with_reducible refine HaltK.mk ?_) | (with_reducible refine StopK.mk ?_)); (with_reducible conv => whnf); (with_reducible conv => congr <;> reduce))))
      | (refine IfK.mk (fun _ => ?_) (fun _ => ?_) <;> ((with_reducible conv => whnf); (with_reducible conv => congr <;> reduce); repeat ((first | (with_reducible refine HaltK.mk ?_) | (with_reducible refine StopK.mk ?_)); (with_reducible conv => whnf); (with_reducible conv => congr <;> reduce)))))
    | ((with_reducible show NeedK _ _ _ _); refine NeedK.mk (by (try simp only [castN]); omega) ?_; ((with_reducible conv => whnf); (with_reducible conv => congr <;> reduce); repeat ((first | (with_reducible refine HaltK.mk ?_) | (with_reducible refine StopK.mk ?_)); (with_reducible conv => whnf); (with_reducible conv => congr <;> reduce))))
    | ((with_reducible show NextK _ _); refine NextK.mk (k + 1) ⟨by omega, next ?_⟩ (by omega) ⟨⟨rfl, rfl⟩, ⟨rfl, by show ((k + 1 : Nat) : Int) = (k : Int) + 1; omega, trivial⟩, trivial⟩)
    | ((with_reducible show (_ ∧ _) ∧ _ ∧ _); refine ⟨⟨rfl, rfl⟩, ?_, ?_⟩ <;> (with_reducible conv => whnf) <;> repeat' (first | (with_reducible exact trivial) | (with_reducible refine And.intro ?_ ?_ <;> with_reducible conv => whnf))))
        all_goals first
          | exact no hok'
          | exact hok'
          | trace_state
      · have e0 : decide (97 ≤ c) = false := decide_eq_false (by omega)
        have e1 : decide (c ≤ 122) = true := decide_eq_true (by omega)
        have e2 : decide (65 ≤ c) = false := decide_eq_false (by omega)
        have e3 : decide (c ≤ 90) = true := decide_eq_true (by omega)
        have e4 : decide (48 ≤ c) = true := decide_eq_true (by omega)
        have e5 : decide (c ≤ 57) = false := decide_eq_false (by omega)
        have e6 : decide (c = 45) = false := decide_eq_false (by omega)
        have e7 : decide (c = 46) = false := decide_eq_false (by omega)
        have e8 : decide (c = 95) = false := decide_eq_false (by omega)
        have e9 : (!decide (c = 95)) = true := by rw [e8]; rfl
        have f5 : (!decide (c ≤ 57)) = !(decide (c ≤ 57)) := rfl
        rw [e5] at f5
        have f6 : (!decide (c = 45)) = !(decide (c = 45)) := rfl
        rw [e6] at f6
        have f7 : (!decide (c = 46)) = !(decide (c = 46)) := rfl
        rw [e7] at f7
        simp only [Bool.not_true, Bool.not_false] at f5
        simp only [Bool.not_true, Bool.not_false] at f6
        simp only [Bool.not_true, Bool.not_false] at f7
        simp only [e0, e1, e2, e3, e4, e5, e6, e7, e8, Bool.and_true, Bool.true_and, Bool.and_false, Bool.false_and, Bool.or_true, Bool.true_or, Bool.or_false, Bool.false_or] at hok'
        cases K0
        all_goals (try simp only [Bool.not_true, Bool.not_false] at hok')
        repeat' (first
    | ((with_reducible show IfK _ _ _ _); first
      | (refine IfK.yes (by assumption) ?_; ((with_reducible conv => whnf); (with_reducible conv => congr <;> reduce); repeat ((first | (with_reducible refine HaltK.mk ?_) | (with_reducible refine StopK.mk ?_)); (with_reducible conv => whnf); (with_reducible conv => congr <;> reduce))))
      | (refine IfK.no (by assumption) ?_; ((with_reducible conv => whnf); (with_reducible conv => congr <;> reduce); repeat ((first | (with_reducible refine HaltK.mk ?_) | (with_reducible refine StopK.mk ?_)); (with_reducible conv => whnf); (with_reducible conv => congr <;> reduce))))
      | (with_reducible refine IfK.yes Bool.not_false ?_; ((with_reducible conv => whnf); (with_reducible conv => congr <;> reduce); repeat ((first | (with_reducible refine HaltK.mk ?_) | (with_reducible refine StopK.mk ?_)); (with_reducible conv => whnf); (with_reducible conv => congr <;> reduce))))
      | (with_reducible refine IfK.no Bool.not_true ?_; ((with_reducible conv => whnf); (with_reducible conv => congr <;> reduce); repeat ((first | (with_reducible refine HaltK.mk ?_) | (with_reducible refine StopK.mk ?_)); (with_reducible conv => whnf); (with_reducible conv => congr <;> reduce))))
      | (with_reducible refine IfK.yes (nf (by assumption)) ?_; ((with_reducible conv => whnf); (with_reducible conv => congr <;> reduce); repeat ((first | (with_reducible refine HaltK.mk ?_) | (with_reducible refine StopK.mk ?_)); (with_reducible conv => whnf); (with_reducible conv => congr <;> reduce))))
      | (with_reducible refine IfK.no (nt (by assumption)) ?_; ((with_reducible conv => whnf); (with_reducible conv => congr <;> reduce); repeat ((first | (with_reducible refine HaltK.mk ?_) | (with_reducible refine StopK.mk ?_)); (with_reducible conv => whnf); (with_reducible conv => congr <;> reduce))))
      | (with_reducible refine IfK.tt ?_; ((with_reducible conv => whnf); (with_reducible conv => congr <;> reduce); repeat ((first | (with_reducible refine HaltK.mk ?_) | (with_reducible refine StopK.mk ?_)); (with_reducible conv => whnf); (with_reducible conv => congr <;> reduce))))
      | (with_reducible refine IfK.ff ?_; ((with_reducible conv => whnf); (with_reducible conv => congr <;> reduce); repeat ((first | (with_reducible refine HaltK.mk ?_) | (with_reducible refine StopK.mk ?_)); (with_reducible conv => whnf); (with_reducible conv => congr <;> reduce))))
      | (refine IfK.mk (fun _ => ?_) (fun _ => ?_) <;> ((with_reducible conv => whnf); (with_reducible conv => congr <;> reduce); repeat ((first | (with_reducible refine HaltK.mk ?_) | (with_reducible refine StopK.mk ?_)); (with_reducible conv => whnf); (with_reducible conv => congr <;> reduce)))))
    | ((with_reducible show NeedK _ _ _ _); refine NeedK.mk (by (try simp only [castN]); omega) ?_; ((with_reducible conv => whnf); (with_reducible conv => congr <;> reduce); repeat ((first | (with_reducible refine HaltK.mk ?_) | (with_reducible refine StopK.mk ?_)); (with_reducible conv => whnf); (with_reducible conv => congr <;> reduce))))
    | ((with_reducible show NextK _ _); refine NextK.mk (k + 1) ⟨by omega, next ?_⟩ (by omega) ⟨⟨rfl, rfl⟩, ⟨rfl, by show ((k + 1 : Nat) : Int) = (k : Int) + 1; omega, trivial⟩, trivial⟩)
    | ((with_reducible show (_ ∧ _) ∧ _ ∧ _); refine ⟨⟨rfl, rfl⟩, ?_, ?_⟩ <;> (with_reducible conv => whnf) <;> repeat' (first | (with_reducible exact trivial) | (with_reducible refine And.intro ?_ ?_ <;> with_reducible conv => whnf))))
        all_goals first
          | exact no hok'
          | exact hok'
          | trace_state
      · have e0 : decide (97 ≤ c) = false := decide_eq_false (by omega)
        have e1 : decide (c ≤ 122) = true := decide_eq_true (by omega)
        have e2 : decide (65 ≤ c) = true := decide_eq_true (by omega)
        have e3 : decide (c ≤ 90) = true := decide_eq_true (by omega)
        have e4 : decide (48 ≤ c) = true := decide_eq_true (by omega)
        have e5 : decide (c ≤ 57) = false := decide_eq_false (by omega)
        have e6 : decide (c = 45) = false := decide_eq_false (by omega)
        have e7 : decide (c = 46) = false := decide_eq_false (by omega)
        have e8 : decide (c = 95) = false := decide_eq_false (by omega)
        have e9 : (!decide (c = 95)) = true := by rw [e8]; rfl
        have f5 : (!decide (c ≤ 57)) = !(decide (c ≤ 57)) := rfl
        rw [e5] at f5
        have f6 : (!decide (c = 45)) = !(decide (c = 45)) := rfl
        rw [e6] at f6
        have f7 : (!decide (c = 46)) = !(decide (c = 46)) := rfl
        rw [e7] at f7
        simp only [Bool.not_true, Bool.not_false] at f5
        simp only [Bool.not_true, Bool.not_false] at f6
        simp only [Bool.not_true, Bool.not_false] at f7
        simp only [e0, e1, e2, e3, e4, e5, e6, e7, e8, Bool.and_true, Bool.true_and, Bool.and_false, Bool.false_and, Bool.or_true, Bool.true_or, Bool.or_false, Bool.false_or] at hok'
        cases K0
        all_goals (try simp only [Bool.not_true, Bool.not_false] at hok')
        repeat' (first
    | ((with_reducible show IfK _ _ _ _); first
      | (refine IfK.yes (by assumption) ?_; ((with_reducible conv => whnf); (with_reducible conv => congr <;> reduce); repeat ((first | (with_reducible refine HaltK.mk ?_) | (with_reducible refine StopK.mk ?_)); (with_reducible conv => whnf); (with_reducible conv => congr <;> reduce))))
      | (refine IfK.no (by assumption) ?_; ((with_reducible conv => whnf); (with_reducible conv => congr <;> reduce); repeat ((first | (with_reducible refine HaltK.mk ?_) | (with_reducible refine StopK.mk ?_)); (with_reducible conv => whnf); (with_reducible conv => congr <;> reduce))))
      | (with_reducible refine IfK.yes Bool.not_false ?_; ((with_reducible conv => whnf); (with_reducible conv => congr <;> reduce); repeat ((first | (with_reducible refine HaltK.mk ?_) | (with_reducible refine StopK.mk ?_)); (with_reducible conv => whnf); (with_reducible conv => congr <;> reduce))))
      | (with_reducible refine IfK.no Bool.not_true ?_; ((with_reducible conv => whnf); (with_reducible conv => congr <;> reduce); repeat ((first | (with_reducible refine HaltK.mk ?_) | (with_reducible refine StopK.mk ?_)); (with_reducible conv => whnf); (with_reducible conv => congr <;> reduce))))
      | (with_reducible refine IfK.yes (nf (by assumption)) ?_; ((with_reducible conv => whnf); (with_reducible conv => congr <;> reduce); repeat ((first | (with_reducible refine HaltK.mk ?_) | (with_reducible refine StopK.mk ?_)); (with_reducible conv => whnf); (with_reducible conv => congr <;> reduce))))
      | (with_reducible refine IfK.no (nt (by assumption)) ?_; ((with_reducible conv => whnf); (with_reducible conv => congr <;> reduce); repeat ((first | (with_reducible refine HaltK.mk ?_) | (with_reducible refine StopK.mk ?_)); (with_reducible conv => whnf); (with_reducible conv => congr <;> reduce))))
      | (with_reducible refine IfK.tt ?_; ((with_reducible conv => whnf); (with_reducible conv => congr <;> reduce); repeat ((first | (with_reducible refine HaltK.mk ?_) | (with_reducible refine StopK.mk ?_)); (with_reducible conv => whnf); (with_reducible conv => congr <;> reduce))))
      | (with_reducible refine IfK.ff ?_; ((with_reducible conv => whnf); (with_reducible conv => congr <;> reduce); repeat ((first | (with_reducible refine HaltK.mk ?_) | (with_reducible refine StopK.mk ?_)); (with_reducible conv => whnf); (with_reducible conv => congr <;> reduce))))
      | (refine IfK.mk (fun _ => ?_) (fun _ => ?_) <;> ((with_reducible conv => whnf); (with_reducible conv => congr <;> reduce); repeat ((first | (with_reducible refine HaltK.mk ?_) | (with_reducible refine StopK.mk ?_)); (with_reducible conv => whnf); (with_reducible conv => congr <;> reduce)))))
    | ((with_reducible show NeedK _ _ _ _); refine NeedK.mk (by (try simp only [castN]); omega) ?_; ((with_reducible conv => whnf); (with_reducible conv => congr <;> reduce); repeat ((first | (with_reducible refine HaltK.mk ?_) | (with_reducible refine StopK.mk ?_)); (with_reducible conv => whnf); (with_reducible conv => congr <;> reduce))))
    | ((with_reducible show NextK _ _); refine NextK.mk (k + 1) ⟨by omega, next ?_⟩ (by omega) ⟨⟨rfl, rfl⟩, ⟨rfl, by show ((k + 1 : Nat) : Int) = (k : Int) + 1; omega, trivial⟩, trivial⟩)
    | ((with_reducible show (_ ∧ _) ∧ _ ∧ _); refine ⟨⟨rfl, rfl⟩, ?_, ?_⟩ <;> (with_reducible conv => whnf) <;> repeat' (first | (with_reducible exact trivial) | (with_reducible refine And.intro ?_ ?_ <;> with_reducible conv => whnf))))
        all_goals first
          | exact no hok'
          | exact hok'
          | trace_state
      · have e0 : decide (97 ≤ c) = false := decide_eq_false (by omega)
        have e1 : decide (c ≤ 122) = true := decide_eq_true (by omega)
        have e2 : decide (65 ≤ c) = true := decide_eq_true (by omega)
        have e3 : decide (c ≤ 90) = false := decide_eq_false (by omega)
        have e4 : decide (48 ≤ c) = true := decide_eq_true (by omega)
        have e5 : decide (c ≤ 57) = false := decide_eq_false (by omega)
        have e6 : decide (c = 45) = false := decide_eq_false (by omega)
        have e7 : decide (c = 46) = false := decide_eq_false (by omega)
        have e8 : decide (c = 95) = false := decide_eq_false (by omega)
        have e9 : (!decide (c = 95)) = true := by rw [e8]; rfl
        have f5 : (!decide (c ≤ 57)) = !(decide (c ≤ 57)) := rfl
        rw [e5] at f5
        have f6 : (!decide (c = 45)) = !(decide (c = 45)) := rfl
        rw [e6] at f6
        have f7 : (!decide (c = 46)) = !(decide (c = 46)) := rfl
        rw [e7] at f7
        simp only [Bool.not_true, Bool.not_false] at f5
        simp only [Bool.not_true, Bool.not_false] at f6
        simp only [Bool.not_true, Bool.not_false] at f7
        simp only [e0, e1, e2, e3, e4, e5, e6, e7, e8, Bool.and_true, Bool.true_and, Bool.and_false, Bool.false_and, Bool.or_true, Bool.true_or, Bool.or_false, Bool.false_or] at hok'
        cases K0
        all_goals (try simp only [Bool.not_true, Bool.not_false] at hok')
        repeat' (first
    | ((with_reducible show IfK _ _ _ _); first
      | (refine IfK.yes (by assumption) ?_; ((with_reducible conv => whnf); (with_reducible conv => congr <;> reduce); repeat ((first | (with_reducible refine HaltK.mk ?_) | (with_reducible refine StopK.mk ?_)); (with_reducible conv => whnf); (with_reducible conv => congr <;> reduce))))
      | (refine IfK.no (by assumption) ?_; ((with_reducible conv => whnf); (with_reducible conv => congr <;> reduce); repeat ((first | (with_reducible refine HaltK.mk ?_) | (with_reducible refine StopK.mk ?_)); (with_reducible conv => whnf); (with_reducible conv => congr <;> reduce))))
      | (with_reducible refine IfK.yes Bool.not_false ?_; ((with_reducible conv => whnf); (with_reducible conv => congr <;> reduce); repeat ((first | (with_reducible refine HaltK.mk ?_) | (with_reducible refine StopK.mk ?_)); (with_reducible conv => whnf); (with_reducible conv => congr <;> reduce))))
      | (with_reducible refine IfK.no Bool.not_true ?_; ((with_reducible conv => whnf); (with_reducible conv => congr <;> reduce); repeat ((first | (with_reducible refine HaltK.mk ?_) | (with_reducible refine StopK.mk ?_)); (with_reducible conv => whnf); (with_reducible conv => congr <;> reduce))))
      | (with_reducible refine IfK.yes (nf (by assumption)) ?_; ((with_reducible conv => whnf); (with_reducible conv => congr <;> reduce); repeat ((first | (with_reducible refine HaltK.mk ?_) | (with_reducible refine StopK.mk ?_)); (with_reducible conv => whnf); (with_reducible conv => congr <;> reduce))))
      | (with_reducible refine IfK.no (nt (by assumption)) ?_; ((with_reducible conv => whnf); (with_reducible conv => congr <;> reduce); repeat ((first | (with_reducible refine HaltK.mk ?_) | (with_reducible refine StopK.mk ?_)); (with_reducible conv => whnf); (with_reducible conv => congr <;> reduce))))
      | (with_reducible refine IfK.tt ?_; ((with_reducible conv => whnf); (with_reducible conv => congr <;> reduce); repeat ((first | (with_reducible refine HaltK.mk ?_) | (with_reducible refine StopK.mk ?_)); (with_reducible conv => whnf); (with_reducible conv => congr <;> reduce))))
      | (with_reducible refine IfK.ff ?_; ((with_reducible conv => whnf); (with_reducible conv => congr <;> reduce); repeat ((first | (with_reducible refine HaltK.mk ?_) | (with_reducible refine StopK.mk ?_)); (with_reducible conv => whnf); (with_reducible conv => congr <;> reduce))))
      | (refine IfK.mk (fun _ => ?_) (fun _ => ?_) <;> ((with_reducible conv => whnf); (with_reducible conv => congr <;> reduce); repeat ((first | (with_reducible refine HaltK.mk ?_) | (with_reducible refine StopK.mk ?_)); (with_reducible conv => whnf); (with_reducible conv => congr <;> reduce)))))
    | ((with_reducible show NeedK _ _ _ _); refine NeedK.mk (by (try simp only [castN]); omega) ?_; ((with_reducible conv => whnf); (with_reducible conv => congr <;> reduce); repeat ((first | (with_reducible refine HaltK.mk ?_) | (with_reducible refine StopK.mk ?_)); (with_reducible conv => whnf); (with_reducible conv => congr <;> reduce))))
    | ((with_reducible show NextK _ _); refine NextK.mk (k + 1) ⟨by omega, next ?_⟩ (by omega) ⟨⟨rfl, rfl⟩, ⟨rfl, by show ((k + 1 : Nat) : Int) = (k : Int) + 1; omega, trivial⟩, trivial⟩)
    | ((with_reducible show (_ ∧ _) ∧ _ ∧ _); refine ⟨⟨rfl, rfl⟩, ?_, ?_⟩ <;> (with_reducible conv => whnf) <;> repeat' (first | (with_reducible exact trivial) | (with_reducible refine And.intro ?_ ?_ <;> with_reducible conv => whnf))))
        all_goals first
          | exact no hok'
          | exact hok'
          | trace_state
      · have e0 : decide (97 ≤ c) = false := decide_eq_false (by omega)
        have e1 : decide (c ≤ 122) = true := decide_eq_true (by omega)
        have e2 : decide (65 ≤ c) = true := decide_eq_true (by omega)
        have e3 : decide (c ≤ 90) = false := decide_eq_false (by omega)
        have e4 : decide (48 ≤ c) = true := decide_eq_true (by omega)
        have e5 : decide (c ≤ 57) = false := decide_eq_false (by omega)
        have e6 : decide (c = 45) = false := decide_eq_false (by omega)
        have e7 : decide (c = 46) = false := decide_eq_false (by omega)
        have e8 : decide (c = 95) = true := decide_eq_true (by omega)
        have e9 : (!decide (c = 95)) = false := by rw [e8]; rfl
        have f5 : (!decide (c ≤ 57)) = !(decide (c ≤ 57)) := rfl
        rw [e5] at f5
        have f6 : (!decide (c = 45)) = !(decide (c = 45)) := rfl
        rw [e6] at f6
        have f7 : (!decide (c = 46)) = !(decide (c = 46)) := rfl
        rw [e7] at f7
        simp only [Bool.not_true, Bool.not_false] at f5
        simp only [Bool.not_true, Bool.not_false] at f6
        simp only [Bool.not_true, Bool.not_false] at f7
        simp only [e0, e1, e2, e3, e4, e5, e6, e7, e8, Bool.and_true, Bool.true_and, Bool.and_false, Bool.false_and, Bool.or_true, Bool.true_or, Bool.or_false, Bool.false_or] at hok'
        cases K0
        all_goals (try simp only [Bool.not_true, Bool.not_false] at hok')
        repeat' (first
    | ((with_reducible show IfK _ _ _ _); first
      | (refine IfK.yes (by assumption) ?_; ((with_reducible conv => whnf); (with_reducible conv => congr <;> reduce); repeat ((first | (with_reducible refine HaltK.mk ?_) | (with_reducible refine StopK.mk ?_)); (with_reducible conv => whnf); (with_reducible conv => congr <;> reduce))))
      | (refine IfK.no (by assumption) ?_; ((with_reducible conv => whnf); (with_reducible conv => congr <;> reduce); repeat ((first | (with_reducible refine HaltK.mk ?_) | (with_reducible refine StopK.mk ?_)); (with_reducible conv => whnf); (with_reducible conv => congr <;> reduce))))
      | (with_reducible refine IfK.yes Bool.not_false ?_; ((with_reducible conv => whnf); (with_reducible conv => congr <;> reduce); repeat ((first | (with_reducible refine HaltK.mk ?_) | (with_reducible refine StopK.mk ?_)); (with_reducible conv => whnf); (with_reducible conv => congr <;> reduce))))
      | (with_reducible refine IfK.no Bool.not_true ?_; ((with_reducible conv => whnf); (with_reducible conv => congr <;> reduce); repeat ((first | (with_reducible refine HaltK.mk ?_) | (with_reducible refine StopK.mk ?_)); (with_reducible conv => whnf); (with_reducible conv => congr <;> reduce))))
      | (with_reducible refine IfK.yes (nf (by assumption)) ?_; ((with_reducible conv => whnf); (with_reducible conv => congr <;> reduce); repeat ((first | (with_reducible refine HaltK.mk ?_) | (with_reducible refine StopK.mk ?_)); (with_reducible conv => whnf); (with_reducible conv => congr <;> reduce))))
      | (with_reducible refine IfK.no (nt (by assumption)) ?_; ((with_reducible conv => whnf); (with_reducible conv => congr <;> reduce); repeat ((first | (with_reducible refine HaltK.mk ?_) | (with_reducible refine StopK.mk ?_)); (with_reducible conv => whnf); (with_reducible conv => congr <;> reduce))))
      | (with_reducible refine IfK.tt ?_; ((with_reducible conv => whnf); (with_reducible conv => congr <;> reduce); repeat ((first | (with_reducible refine HaltK.mk ?_) | (with_reducible refine StopK.mk ?_)); (with_reducible conv => whnf); (with_reducible conv => congr <;> reduce))))
      | (with_reducible refine IfK.ff ?_; ((with_reducible conv => whnf); (with_reducible conv => congr <;> reduce); repeat ((first | (with_reducible refine HaltK.mk ?_) | (with_reducible refine StopK.mk ?_)); (with_reducible conv => whnf); (with_reducible conv => congr <;> reduce))))
      | (refine IfK.mk (fun _ => ?_) (fun _ => ?_) <;> ((with_reducible conv => whnf); (with_reducible conv => congr <;> reduce); repeat ((first | (with_reducible refine HaltK.mk ?_) | (with_reducible refine StopK.mk ?_)); (with_reducible conv => whnf); (with_reducible conv => congr <;> reduce)))))
    | ((with_reducible show NeedK _ _ _ _); refine NeedK.mk (by (try simp only [castN]); omega) ?_; ((with_reducible conv => whnf); (with_reducible conv => congr <;> reduce); repeat ((first | (with_reducible refine HaltK.mk ?_) | (with_reducible refine StopK.mk ?_)); (with_reducible conv => whnf); (with_reducible conv => congr <;> reduce))))
    | ((with_reducible show NextK _ _); refine NextK.mk (k + 1) ⟨by omega, next ?_⟩ (by omega) ⟨⟨rfl, rfl⟩, ⟨rfl, by show ((k + 1 : Nat) : Int) = (k : Int) + 1; omega, trivial⟩, trivial⟩)
    | ((with_reducible show (_ ∧ _) ∧ _ ∧ _); refine ⟨⟨rfl, rfl⟩, ?_, ?_⟩ <;> (with_reducible conv => whnf) <;> repeat' (first | (with_reducible exact trivial) | (with_reducible refine And.intro ?_ ?_ <;> with_reducible conv => whnf))))
        all_goals first
          | exact no hok'
          | exact hok'
          | trace_state
      · have e0 : decide (97 ≤ c) = false := decide_eq_false (by omega)
        have e1 : decide (c ≤ 122) = true := decide_eq_true (by omega)
        have e2 : decide (65 ≤ c) = true := decide_eq_true (by omega)
        have e3 : decide (c ≤ 90) = false := decide_eq_false (by omega)
        have e4 : decide (48 ≤ c) = true := decide_eq_true (by omega)
        have e5 : decide (c ≤ 57) = false := decide_eq_false (by omega)
        have e6 : decide (c = 45) = false := decide_eq_false (by omega)
        have e7 : decide (c = 46) = false := decide_eq_false (by omega)
        have e8 : decide (c = 95) = false := decide_eq_false (by omega)
        have e9 : (!decide (c = 95)) = true := by rw [e8]; rfl
        have f5 : (!decide (c ≤ 57)) = !(decide (c ≤ 57)) := rfl
        rw [e5] at f5
        have f6 : (!decide (c = 45)) = !(decide (c = 45)) := rfl
        rw [e6] at f6
        have f7 : (!decide (c = 46)) = !(decide (c = 46)) := rfl
        rw [e7] at f7
        simp only [Bool.not_true, Bool.not_false] at f5
        simp only [Bool.not_true, Bool.not_false] at f6
        simp only [Bool.not_true, Bool.not_false] at f7
        simp only [e0, e1, e2, e3, e4, e5, e6, e7, e8, Bool.and_true, Bool.true_and, Bool.and_false, Bool.false_and, Bool.or_true, Bool.true_or, Bool.or_false, Bool.false_or] at hok'
        cases K0
        all_goals (try simp only [Bool.not_true, Bool.not_false] at hok')
        repeat' (first
    | ((with_reducible show IfK _ _ _ _); first
      | (refine IfK.yes (by assumption) ?_; ((with_reducible conv => whnf); (with_reducible conv => congr <;> reduce); repeat ((first | (with_reducible refine HaltK.mk ?_) | (with_reducible refine StopK.mk ?_)); (with_reducible conv => whnf); (with_reducible conv => congr <;> reduce))))
      | (refine IfK.no (by assumption) ?_; ((with_reducible conv => whnf); (with_reducible conv => congr <;> reduce); repeat ((first | (with_reducible refine HaltK.mk ?_) | (with_reducible refine StopK.mk ?_)); (with_reducible conv => whnf); (with_reducible conv => congr <;> reduce))))
      | (with_reducible refine IfK.yes Bool.not_false ?_; ((with_reducible conv => whnf); (with_reducible conv => congr <;> reduce); repeat ((first | (with_reducible refine HaltK.mk ?_) | (with_reducible refine StopK.mk ?_)); (with_reducible conv => whnf); (with_reducible conv => congr <;> reduce))))
      | (with_reducible refine IfK.no Bool.not_true ?_; ((with_reducible conv => whnf); (with_reducible conv => congr <;> reduce); repeat ((first | (with_reducible refine HaltK.mk ?_) | (with_reducible refine StopK.mk ?_)); (with_reducible conv => whnf); (with_reducible conv => congr <;> reduce))))
      | (with_reducible refine IfK.yes (nf (by assumption)) ?_; ((with_reducible conv => whnf); (with_reducible conv => congr <;> reduce); repeat ((first | (with_reducible refine HaltK.mk ?_) | (with_reducible refine StopK.mk ?_)); (with_reducible conv => whnf); (with_reducible conv => congr <;> reduce))))
      | (with_reducible refine IfK.no (nt (by assumption)) ?_; ((with_reducible conv => whnf); (with_reducible conv => congr <;> reduce); repeat ((first | (with_reducible refine HaltK.mk ?_) | (with_reducible refine StopK.mk ?_)); (with_reducible conv => whnf); (with_reducible conv => congr <;> reduce))))
      | (with_reducible refine IfK.tt ?_; ((with_reducible conv => whnf); (with_reducible conv => congr <;> reduce); repeat ((first | (with_reducible refine HaltK.mk ?_) | (with_reducible refine StopK.mk ?_)); (with_reducible conv => whnf); (with_reducible conv => congr <;> reduce))))
      | (with_reducible refine IfK.ff ?_; ((with_reducible conv => whnf); (with_reducible conv => congr <;> reduce); repeat ((first | (with_reducible refine HaltK.mk ?_) | (with_reducible refine StopK.mk ?_)); (with_reducible conv => whnf); (with_reducible conv => congr <;> reduce))))
      | (refine IfK.mk (fun _ => ?_) (fun _ => ?_) <;> ((with_reducible conv => whnf); (with_reducible conv => congr <;> reduce); repeat ((first | (with_reducible refine HaltK.mk ?_) | (with_reducible refine StopK.mk ?_)); (with_reducible conv => whnf); (with_reducible conv => congr <;> reduce)))))
    | ((with_reducible show NeedK _ _ _ _); refine NeedK.mk (by (try simp only [castN]); omega) ?_; ((with_reducible conv => whnf); (with_reducible conv => congr <;> reduce); repeat ((first | (with_reducible refine HaltK.mk ?_) | (with_reducible refine StopK.mk ?_)); (with_reducible conv => whnf); (with_reducible conv => congr <;> reduce))))
    | ((with_reducible show NextK _ _); refine NextK.mk (k + 1) ⟨by omega, next ?_⟩ (by omega) ⟨⟨rfl, rfl⟩, ⟨rfl, by show ((k + 1 : Nat) : Int) = (k : Int) + 1; omega, trivial⟩, trivial⟩)
    | ((with_reducible show (_ ∧ _) ∧ _ ∧ _); refine ⟨⟨rfl, rfl⟩, ?_, ?_⟩ <;> (with_reducible conv => whnf) <;> repeat' (first | (with_reducible exact trivial) | (with_reducible refine And.intro ?_ ?_ <;> with_reducible conv => whnf))))
        all_goals first
          | exact no hok'
          | exact hok'
          | trace_state
      · have e0 : decide (97 ≤ c) = true := decide_eq_true (by omega)
        have e1 : decide (c ≤ 122) = true := decide_eq_true (by omega)
        have e2 : decide (65 ≤ c) = true := decide_eq_true (by omega)
        have e3 : decide (c ≤ 90) = false := decide_eq_false (by omega)
        have e4 : decide (48 ≤ c) = true := decide_eq_true (by omega)
        have e5 : decide (c ≤ 57) = false := decide_eq_false (by omega)
        have e6 : decide (c = 45) = false := decide_eq_false (by omega)
        have e7 : decide (c = 46) = false := decide_eq_false (by omega)
        have e8 : decide (c = 95) = false := decide_eq_false (by omega)
        have e9 : (!decide (c = 95)) = true := by rw [e8]; rfl
        have f5 : (!decide (c ≤ 57)) = !(decide (c ≤ 57)) := rfl
        rw [e5] at f5
        have f6 : (!decide (c = 45)) = !(decide (c = 45)) := rfl
        rw [e6] at f6
        have f7 : (!decide (c = 46)) = !(decide (c = 46)) := rfl
        rw [e7] at f7
        simp only [Bool.not_true, Bool.not_false] at f5
        simp only [Bool.not_true, Bool.not_false] at f6
        simp only [Bool.not_true, Bool.not_false] at f7
        simp only [e0, e1, e2, e3, e4, e5, e6, e7, e8, Bool.and_true, Bool.true_and, Bool.and_false, Bool.false_and, Bool.or_true, Bool.true_or, Bool.or_false, Bool.false_or] at hok'
        cases K0
        all_goals (try simp only [Bool.not_true, Bool.not_false] at hok')
        repeat' (first
    | ((with_reducible show IfK _ _ _ _); first
      | (refine IfK.yes (by assumption) ?_; ((with_reducible conv => whnf); (with_reducible conv => congr <;> reduce); repeat ((first | (with_reducible refine HaltK.mk ?_) | (with_reducible refine StopK.mk ?_)); (with_reducible conv => whnf); (with_reducible conv => congr <;> reduce))))
      | (refine IfK.no (by assumption) ?_; ((with_reducible conv => whnf); (with_reducible conv => congr <;> reduce); repeat ((first | (with_reducible refine HaltK.mk ?_) | (with_reducible refine StopK.mk ?_)); (with_reducible conv => whnf); (with_reducible conv => congr <;> reduce))))
      | (with_reducible refine IfK.yes Bool.not_false ?_; ((with_reducible conv => whnf); (with_reducible conv => congr <;> reduce); repeat ((first | (with_reducible refine HaltK.mk ?_) | (with_reducible refine StopK.mk ?_)); (with_reducible conv => whnf); (with_reducible conv => congr <;> reduce))))
      | (with_reducible refine IfK.no Bool.not_true ?_; ((with_reducible conv => whnf); (with_reducible conv => congr <;> reduce); repeat ((first | (with_reducible refine HaltK.mk ?_) | (with_reducible refine StopK.mk ?_)); (with_reducible conv => whnf); (with_reducible conv => congr <;> reduce))))
      | (with_reducible refine IfK.yes (nf (by assumption)) ?_; ((with_reducible conv => whnf); (with_reducible conv => congr <;> reduce); repeat ((first | (with_reducible refine HaltK.mk ?_) | (with_reducible refine StopK.mk ?_)); (with_reducible conv => whnf); (with_reducible conv => congr <;> reduce))))
      | (with_reducible refine IfK.no (nt (by assumption)) ?_; ((with_reducible conv => whnf); (with_reducible conv => congr <;> reduce); repeat ((first | (with_reducible refine HaltK.mk ?_) | (with_reducible refine StopK.mk ?_)); (with_reducible conv => whnf); (with_reducible conv => congr <;> reduce))))
      | (with_reducible refine IfK.tt ?_; ((with_reducible conv => whnf); (with_reducible conv => congr <;> reduce); repeat ((first | (with_reducible refine HaltK.mk ?_) | (with_reducible refine StopK.mk ?_)); (with_reducible conv => whnf); (with_reducible conv => congr <;> reduce))))
      | (with_reducible refine IfK.ff ?_; ((with_reducible conv => whnf); (with_reducible conv => congr <;> reduce); repeat ((first | (with_reducible refine HaltK.mk ?_) | (with_reducible refine StopK.mk ?_)); (with_reducible conv => whnf); (with_reducible conv => congr <;> reduce))))
      | (refine IfK.mk (fun _ => ?_) (fun _ => ?_) <;> ((with_reducible conv => whnf); (with_reducible conv => congr <;> reduce); repeat ((first | (with_reducible refine HaltK.mk ?_) | (with_reducible refine StopK.mk ?_)); (with_reducible conv => whnf); (with_reducible conv => congr <;> reduce)))))
    | ((with_reducible show NeedK _ _ _ _); refine NeedK.mk (by (try simp only [castN]); omega) ?_; ((with_reducible conv => whnf); (with_reducible conv => congr <;> reduce); repeat ((first | (with_reducible refine HaltK.mk ?_) | (with_reducible refine StopK.mk ?_)); (with_reducible conv => whnf); (with_reducible conv => congr <;> reduce))))
    | ((with_reducible show NextK _ _); refine NextK.mk (k + 1) ⟨by omega, next ?_⟩ (by omega) ⟨⟨rfl, rfl⟩, ⟨rfl, by show ((k + 1 : Nat) : Int) = (k : Int) + 1; omega, trivial⟩, trivial⟩)
    | ((with_reducible show (_ ∧ _) ∧ _ ∧ _); refine ⟨⟨rfl, rfl⟩, ?_, ?_⟩ <;> (with_reducible conv => whnf) <;> repeat' (first | (with_reducible exact trivial) | (with_reducible refine And.intro ?_ ?_ <;> with_reducible conv => whnf))))
        all_goals first
          | exact no hok'
          | exact hok'
          | trace_state
      · have e0 : decide (97 ≤ c) = true := decide_eq_true (by omega)
        have e1 : decide (c ≤ 122) = false := decide_eq_false (by omega)
        have e2 : decide (65 ≤ c) = true := decide_eq_true (by omega)
        have e3 : decide (c ≤ 90) = false := decide_eq_false (by omega)
        have e4 : decide (48 ≤ c) = true := decide_eq_true (by omega)
        have e5 : decide (c ≤ 57) = false := decide_eq_false (by omega)
        have e6 : decide (c = 45) = false := decide_eq_false (by omega)
        have e7 : decide (c = 46) = false := decide_eq_false (by omega)
        have e8 : decide (c = 95) = false := decide_eq_false (by omega)
        have e9 : (!decide (c = 95)) = true := by rw [e8]; rfl
        have f5 : (!decide (c ≤ 57)) = !(decide (c ≤ 57)) := rfl
        rw [e5] at f5
        have f6 : (!decide (c = 45)) = !(decide (c = 45)) := rfl
        rw [e6] at f6
        have f7 : (!decide (c = 46)) = !(decide (c = 46)) := rfl
        rw [e7] at f7
        simp only [Bool.not_true, Bool.not_false] at f5
        simp only [Bool.not_true, Bool.not_false] at f6
        simp only [Bool.not_true, Bool.not_false] at f7
        simp only [e0, e1, e2, e3, e4, e5, e6, e7, e8, Bool.and_true, Bool.true_and, Bool.and_false, Bool.false_and, Bool.or_true, Bool.true_or, Bool.or_false, Bool.false_or] at hok'
        cases K0
        all_goals (try simp only [Bool.not_true, Bool.not_false] at hok')
        repeat' (first
    | ((with_reducible show IfK _ _ _ _); first
      | (refine IfK.yes (by assumption) ?_; ((with_reducible conv => whnf); (with_reducible conv => congr <;> reduce); repeat ((first | (with_reducible refine HaltK.mk ?_) | (with_reducible refine StopK.mk ?_)); (with_reducible conv => whnf); (with_reducible conv => congr <;> reduce))))
      | (refine IfK.no (by assumption) ?_; ((with_reducible conv => whnf); (with_reducible conv => congr <;> reduce); repeat ((first | (with_reducible refine HaltK.mk ?_) | (with_reducible refine StopK.mk ?_)); (with_reducible conv => whnf); (with_reducible conv => congr <;> reduce))))
      | (with_reducible refine IfK.yes Bool.not_false ?_; ((with_reducible conv => whnf); (with_reducible conv => congr <;> reduce); repeat ((first | (with_reducible refine HaltK.mk ?_) | (with_reducible refine StopK.mk ?_)); (with_reducible conv => whnf); (with_reducible conv => congr <;> reduce))))
      | (with_reducible refine IfK.no Bool.not_true ?_; ((with_reducible conv => whnf); (with_reducible conv => congr <;> reduce); repeat ((first | (with_reducible refine HaltK.mk ?_) | (with_reducible refine StopK.mk ?_)); (with_reducible conv => whnf); (with_reducible conv => congr <;> reduce))))
      | (with_reducible refine IfK.yes (nf (by assumption)) ?_; ((with_reducible conv => whnf); (with_reducible conv => congr <;> reduce); repeat ((first | (with_reducible refine HaltK.mk ?_) | (with_reducible refine StopK.mk ?_)); (with_reducible conv => whnf); (with_reducible conv => congr <;> reduce))))
      | (with_reducible refine IfK.no (nt (by assumption)) ?_; ((with_reducible conv => whnf); (with_reducible conv => congr <;> reduce); repeat ((first | (with_reducible refine HaltK.mk ?_) | (with_reducible refine StopK.mk ?_)); (with_reducible conv => whnf); (with_reducible conv => congr <;> reduce))))
      | (with_reducible refine IfK.tt ?_; ((with_reducible conv => whnf); (with_reducible conv => congr <;> reduce); repeat ((first | (with_reducible refine HaltK.mk ?_) | (with_reducible refine StopK.mk ?_)); (with_reducible conv => whnf); (with_reducible conv => congr <;> reduce))))
      | (with_reducible refine IfK.ff ?_; ((with_reducible conv => whnf); (with_reducible conv => congr <;> reduce); repeat ((first | (with_reducible refine HaltK.mk ?_) | (with_reducible refine StopK.mk ?_)); (with_reducible conv => whnf); (with_reducible conv => congr <;> reduce))))
      | (refine IfK.mk (fun _ => ?_) (fun _ => ?_) <;> ((with_reducible conv => whnf); (with_reducible conv => congr <;> reduce); repeat ((first | (with_reducible refine HaltK.mk ?_) | (with_reducible refine StopK.mk ?_)); (with_reducible conv => whnf); (with_reducible conv => congr <;> reduce)))))
    | ((with_reducible show NeedK _ _ _ _); refine NeedK.mk (by (try simp only [castN]); omega) ?_; ((with_reducible conv => whnf); (with_reducible conv => congr <;> reduce); repeat ((first | (with_reducible refine HaltK.mk ?_) | (with_reducible refine StopK.mk ?_)); (with_reducible conv => whnf); (with_reducible conv => congr <;> reduce))))
    | ((with_reducible show NextK _ _); refine NextK.mk (k + 1) ⟨by omega, next ?_⟩ (by omega) ⟨⟨rfl, rfl⟩, ⟨rfl, by show ((k + 1 : Nat) : Int) = (k : Int) + 1; omega, trivial⟩, trivial⟩)
    | ((with_reducible show (_ ∧ _) ∧ _ ∧ _); refine ⟨⟨rfl, rfl⟩, ?_, ?_⟩ <;> (with_reducible conv => whnf) <;> repeat' (first | (with_reducible exact trivial) | (with_reducible refine And.intro ?_ ?_ <;> with_reducible conv => whnf))))
        all_goals first
          | exact no hok'
          | exact hok'
          | trace_state
    · refine ⟨⟨rfl, rfl⟩, ?_, ?_⟩ <;> (with_reducible conv => whnf) <;> repeat' (first | (with_reducible exact trivial) | (with_reducible refine And.intro ?_ ?_ <;> with_reducible conv => whnf))
      exact hr.2 fun i b hb => hok i b (by have := (List.getElem?_eq_some_iff.1 hb).1; simp only [decide_eq_false_iff_not] at h1; have := size_len s; omega) hb
end Go.Proofs.Attr
end
section
namespace Go.Proofs.Attr
open Go.Am Go.RowKit Go.Lib
set_option maxRecDepth 100000
def strOf (l : List UInt8) : ByteArray := ⟨l.toArray⟩
theorem strOf_size (l : List UInt8) : (strOf l).size = l.length := by simp [strOf, ByteArray.size]
theorem strOf_app (a b : List UInt8) : strOf a ++ strOf b = strOf (a ++ b) := by
  apply ByteArray.ext
  simp [strOf]
theorem lowS_strOf (s : ByteArray) : lowS s = strOf (lowL s.data.toList) := rfl
theorem lowL_len (l : List UInt8) : (lowL l).length = l.length := by simp [lowL]
theorem cut_one {s : ByteArray} {k : Nat} {b : UInt8} (h : s.data.toList[k]? = some b) : s.extract k (k + 1) = strOf [b] := by
  obtain ⟨l, rfl⟩ : ∃ l : List UInt8, s = ⟨l.toArray⟩ := ⟨s.data.toList, by obtain ⟨⟨l⟩⟩ := s; rfl⟩
  rw [ByteArray.extract_mk]
  simp only at h
  have hk := (List.getElem?_eq_some_iff.1 h).1
  have : (l.drop k).take (k + 1 - k) = [b] := by
    rw [List.drop_eq_getElem_cons hk, show k + 1 - k = 1 from by omega]
    simp [(List.getElem?_eq_some_iff.1 h).2]
  rw [this]; rfl
theorem low_take {l : List UInt8} {k : Nat} {b : UInt8} (h : l[k]? = some b) : lowL (l.take (k + 1)) = lowL (l.take k) ++ [lowB b] := by
  have hk := (List.getElem?_eq_some_iff.1 h).1
  rw [List.take_succ_eq_append_getElem hk, lowL, List.map_append, (List.getElem?_eq_some_iff.1 h).2]; rfl
theorem cap_add {b : UInt8} (h : capC (b.toNat : Int) = true) : IntKind.u8.wrap ((b.toNat : Int) + 32) = ((b + 32 : UInt8).toNat : Int) := by
  rw [← cap_step b h]
  simp only [capC, Bool.and_eq_true, decide_eq_true_eq] at h
  rw [IntKind.wrap_u8, IntKind.wrap_u8, IntKind.wrap_u8]
  omega
theorem cap_of {c : Int} (h1 : decide (65 ≤ c) = true) (h2 : decide (c ≤ 90) = true) : capC c = true := by unfold capC; rw [h1, h2]; rfl
theorem bytes_cap {b : UInt8} (h1 : decide (65 ≤ (b.toNat : Int)) = true) (h2 : decide ((b.toNat : Int) ≤ 90) = true) : ∀ (i : Nat) (c : UInt8), [b + 32][i]? = some c → (flat [AV.lit (Value.int IntKind.u8 (IntKind.u8.wrap ((b.toNat : Int) + 32)))])[0 + i]? = some (.lit (.int .u8 c.toNat)) := by
  intro i c hc
  rw [cap_add (cap_of h1 h2)]
  cases i with
  | zero => cases hc; rfl
  | succ i => simp at hc
theorem f26_ok (s : ByteArray) (hs : s.size ≤ 100000) : FnOK Try.prog 26 [] [eStr s] [] (eStr (lowS s)) := by
  have hsz : s.size = s.data.toList.length := size_len s
  rw [lowS_strOf]
  obtain ⟨l, hl⟩ : ∃ l, s.data.toList = l := ⟨_, rfl⟩
  rw [hl] at hsz ⊢
  refine FnOK.startC (rvs := [.tmp 2]) G G_good Try.func26 rfl Try.ntmps26 rfl rfl ?_; delta List.toArray; ((with_reducible conv => whnf); (with_reducible conv => congr <;> reduce); repeat ((first | (with_reducible refine HaltK.mk ?_) | (with_reducible refine StopK.mk ?_)); (with_reducible conv => whnf); (with_reducible conv => congr <;> reduce)))
  refine LoopK.use G G_good (fun (k : Nat) => [(0, eStr s), (3, eStr (strOf (lowL (l.take k)))), (4, eInt k)]) (fun _ => []) (fun k => k ≤ l.length) (fun k => l.length - k) 0 (Nat.zero_le _) ⟨⟨rfl, rfl⟩, ⟨rfl, rfl, rfl, trivial⟩, trivial⟩ ?_
  intro k hk
  ((with_reducible conv => whnf); (with_reducible conv => congr <;> reduce); repeat ((first | (with_reducible refine HaltK.mk ?_) | (with_reducible refine StopK.mk ?_)); (with_reducible conv => whnf); (with_reducible conv => congr <;> reduce)))
  refine IfK.mk (fun h1 => ?_) (fun h1 => ?_) <;> (try simp only [castN] at h1) <;> ((with_reducible conv => whnf); (with_reducible conv => congr <;> reduce); repeat ((first | (with_reducible refine HaltK.mk ?_) | (with_reducible refine StopK.mk ?_)); (with_reducible conv => whnf); (with_reducible conv => congr <;> reduce)))
  · simp only [decide_eq_true_eq] at h1
    have hk' : k < l.length := by omega
    obtain ⟨b, hb0⟩ : ∃ b, l[k]? = some b := ⟨_, List.getElem?_eq_getElem hk'⟩
    have hb : s.data.toList[k]? = some b := by rw [hl]; exact hb0
    refine IdxSK.mk k b rfl hb ?_; ((with_reducible conv => whnf); (with_reducible conv => congr <;> reduce); repeat ((first | (with_reducible refine HaltK.mk ?_) | (with_reducible refine StopK.mk ?_)); (with_reducible conv => whnf); (with_reducible conv => congr <;> reduce)))
    have hln : (strOf (lowL (l.take k))).size ≤ 100000 := by rw [strOf_size, lowL_len]; simp; omega
    have hc1 : (s.extract k (k + 1)).size = 1 := by rw [cut_one hb, strOf_size]; rfl
    have n1 : (strOf (lowL (l.take k))).size + (s.extract k (k + 1)).size ≤ 9223372036854775807 := by omega
    have n2 : (strOf (lowL (l.take k))).size + (ByteArray.mk [b + 32].toArray).size ≤ 9223372036854775807 := by rw [show (ByteArray.mk [b + 32].toArray).size = 1 from rfl]; omega
    have no : capC (b.toNat : Int) = false → strOf (lowL (l.take (k + 1))) = strOf (lowL (l.take k)) ++ s.extract k (k + 1) := by
      intro hc
      rw [cut_one hb, strOf_app, low_take hb0, show lowB b = b from by simp [lowB, hc]]
    have yes : capC (b.toNat : Int) = true → strOf (lowL (l.take (k + 1))) = strOf (lowL (l.take k)) ++ ByteArray.mk [b + 32].toArray := by
      intro hc
      rw [show ByteArray.mk [b + 32].toArray = strOf [b + 32] from rfl, strOf_app, low_take hb0, show lowB b = b + 32 from by simp [lowB, hc]]
    have no1 : decide (65 ≤ (b.toNat : Int)) = false → capC (b.toNat : Int) = false := by intro h; unfold capC; rw [h]; rfl
    have no2 : decide ((b.toNat : Int) ≤ 90) = false → capC (b.toNat : Int) = false := by intro h; unfold capC; rw [h]; simp
    repeat' (first
    | ((with_reducible show IfK _ _ _ _); first
      | (refine IfK.yes (by assumption) ?_; ((with_reducible conv => whnf); (with_reducible conv => congr <;> reduce); repeat ((first | (with_reducible refine HaltK.mk ?_) | (with_reducible refine StopK.mk ?_)); (with_reducible conv => whnf); (with_reducible conv => congr <;> reduce))))
      | (refine IfK.no (by assumption) ?_; ((with_reducible conv => whnf); (with_reducible conv => congr <;> reduce); repeat ((first | (with_reducible refine HaltK.mk ?_) | (with_reducible refine StopK.mk ?_)); (with_reducible conv => whnf); (with_reducible conv => congr <;> reduce))))
      | (with_reducible refine IfK.yes Bool.not_false ?_; ((with_reducible conv => whnf); (with_reducible conv => congr <;> reduce); repeat ((first | (with_reducible refine HaltK.mk ?_) | (with_reducible refine StopK.mk ?_)); (with_reducible conv => whnf); (with_reducible conv => congr <;> reduce))))
      | (with_reducible refine IfK.no Bool.not_true ?_; ((with_reducible conv => whnf); (with_reducible conv => congr <;> reduce); repeat ((first | (with_reducible refine HaltK.mk ?_) | (with_reducible refine StopK.mk ?_)); (with_reducible conv => whnf); (with_reducible conv => congr <;> reduce))))
      | (with_reducible refine IfK.yes (nf (by assumption)) ?_; ((with_reducible conv => whnf); (with_reducible conv => congr <;> reduce); repeat ((first | (with_reducible refine HaltK.mk ?_) | (with_reducible refine StopK.mk ?_)); (with_reducible conv => whnf); (with_reducible conv => congr <;> reduce))))
      | (with_reducible refine IfK.no (nt (by assumption)) ?_; ((with_reducible conv => whnf); (with_reducible conv => congr <;> reduce); repeat ((first | (with_reducible refine HaltK.mk ?_) | (with_reducible refine StopK.mk ?_)); (with_reducible conv => whnf); (with_reducible conv => congr <;> reduce))))
      | (with_reducible refine IfK.tt ?_; ((with_reducible conv => whnf); (with_reducible conv => congr <;> reduce); repeat ((first | (with_reducible refine HaltK.mk ?_) | (with_reducible refine StopK.mk ?_)); (with_reducible conv => whnf); (with_reducible conv => congr <;> reduce))))
      | (with_reducible refine IfK.ff ?_; ((with_reducible conv => whnf); (with_reducible conv => congr <;> reduce); repeat ((first | (with_reducible refine HaltK.mk ?_) | (with_reducible refine StopK.mk ?_)); (with_reducible conv => whnf); (with_reducible conv => congr <;> reduce))))
      | (refine IfK.mk (fun _ => ?_) (fun _ => ?_) <;> ((with_reducible conv => whnf); (with_reducible conv => congr <;> reduce); repeat ((first | (with_reducible refine HaltK.mk ?_) | (with_reducible refine StopK.mk ?_)); (with_reducible conv => whnf); (with_reducible conv => congr <;> reduce)))))
    | ((with_reducible show IdxSK _ _ _ _ _); refine IdxSK.mk k b rfl hb ?_; ((with_reducible conv => whnf); (with_reducible conv => congr <;> reduce); repeat ((first | (with_reducible refine HaltK.mk ?_) | (with_reducible refine StopK.mk ?_)); (with_reducible conv => whnf); (with_reducible conv => congr <;> reduce))))
    | ((with_reducible show BytesK _ _ _ _ _ _ _ _ _); refine BytesK.mk (e := 5) [b + 32] (by kernel_rfl) (by kernel_rfl) (by kernel_rfl) rfl (by simp) (bytes_cap (by assumption) (by assumption)) ?_; ((with_reducible conv => whnf); (with_reducible conv => congr <;> reduce); repeat ((first | (with_reducible refine HaltK.mk ?_) | (with_reducible refine StopK.mk ?_)); (with_reducible conv => whnf); (with_reducible conv => congr <;> reduce))))
    | ((with_reducible show CutSK _ _ _ _ _ _); refine CutSK.mk k (k + 1) rfl (by simp only [castN]; omega) (by omega) (by omega) ?_; ((with_reducible conv => whnf); (with_reducible conv => congr <;> reduce); repeat ((first | (with_reducible refine HaltK.mk ?_) | (with_reducible refine StopK.mk ?_)); (with_reducible conv => whnf); (with_reducible conv => congr <;> reduce))))
    | ((with_reducible show NeedK _ _ _ _); refine NeedK.mk n1 ?_; ((with_reducible conv => whnf); (with_reducible conv => congr <;> reduce); repeat ((first | (with_reducible refine HaltK.mk ?_) | (with_reducible refine StopK.mk ?_)); (with_reducible conv => whnf); (with_reducible conv => congr <;> reduce))))
    | ((with_reducible show NeedK _ _ _ _); refine NeedK.mk n2 ?_; ((with_reducible conv => whnf); (with_reducible conv => congr <;> reduce); repeat ((first | (with_reducible refine HaltK.mk ?_) | (with_reducible refine StopK.mk ?_)); (with_reducible conv => whnf); (with_reducible conv => congr <;> reduce))))
    | ((with_reducible show NeedK _ _ _ _); refine NeedK.mk (by (try simp only [castN]); omega) ?_; ((with_reducible conv => whnf); (with_reducible conv => congr <;> reduce); repeat ((first | (with_reducible refine HaltK.mk ?_) | (with_reducible refine StopK.mk ?_)); (with_reducible conv => whnf); (with_reducible conv => congr <;> reduce))))
    | ((with_reducible show NextK _ _); refine NextK.mk (k + 1) (by omega) (by omega) ⟨⟨rfl, rfl⟩, ⟨rfl, ?_, by show ((k + 1 : Nat) : Int) = (k : Int) + 1; omega, trivial⟩, trivial⟩)
    | ((with_reducible show (_ ∧ _) ∧ _ ∧ _); refine ⟨⟨rfl, rfl⟩, ?_, ?_⟩ <;> (with_reducible conv => whnf) <;> repeat' (first | (with_reducible exact trivial) | (with_reducible refine And.intro ?_ ?_ <;> with_reducible conv => whnf))))
    · exact yes (cap_of (by assumption) (by assumption))
    · exact no (no2 (by assumption))
    · exact no (no1 (by assumption))
  · refine ⟨⟨rfl, rfl⟩, ?_, ?_⟩ <;> (with_reducible conv => whnf) <;> repeat' (first | (with_reducible exact trivial) | (with_reducible refine And.intro ?_ ?_ <;> with_reducible conv => whnf))
    have : k = l.length := by simp only [decide_eq_false_iff_not] at h1; omega
    rw [this, List.take_length]
end Go.Proofs.Attr
end
section
namespace Go.Proofs.Attr
open Go.Am Go.RowKit Go.Lib
set_option maxRecDepth 100000
structure AttrM where
  name : ByteArray
  value : ByteArray
  deriving DecidableEq
@[reducible] def eAttr (a : AttrM) : AV := .agg [eStr a.name, eStr a.value]
def oAttr (a : AttrM) : AV := eAttr a
@[reducible] def eAttrs (l : List AttrM) : AV := .sl 2 (l.map oAttr)
@[reducible] def rAttrs (l : List AttrM) : MS := .live 2 (l.map oAttr) false
theorem noRef_attrs (l : List AttrM) : noRefL (l.map oAttr) = true := by
  rw [noRefL_iff]; intro x hx
  obtain ⟨a, _, rfl⟩ := List.mem_map.1 hx
  rfl
theorem one_attrs (l : List AttrM) : oneL (flat (l.map oAttr)) = true := oneL_map oAttr (fun a => rfl) l
theorem MFL_refl {tab : List (Nat × Nat)} {fz : Nat → Bool} {m : ML} {n : Nat} : ∀ {cs : List AV}, noRefL cs = true → MFL (MF tab fz m n) cs cs
  | [], _ => trivial
  | c :: cs, h => by
    simp only [noRefL, Bool.and_eq_true] at h
    exact ⟨MF_refl n c h.1, MFL_refl h.2⟩
/-- slices.Clone -/
theorem f27_ok (l : List AttrM) (hl : l.length ≤ 100000) : FnOK Try.prog 27 [] [eAttrs l] [rAttrs l] (.own 0 0 l.length) := by
  have hlm : (l.map oAttr).length = l.length := List.length_map ..
  refine FnOK.startC (rvs := [.tmp 2]) G G_good Try.func27 rfl Try.ntmps27 rfl rfl ?_; delta List.toArray; ((with_reducible conv => whnf); (with_reducible conv => congr <;> reduce); repeat ((first | (with_reducible refine HaltK.mk ?_) | (with_reducible refine StopK.mk ?_)); (with_reducible conv => whnf); (with_reducible conv => congr <;> reduce)))
  refine GuessK.mk (fun h => ?_) (fun _ => ?_) <;> ((with_reducible conv => whnf); (with_reducible conv => congr <;> reduce); repeat ((first | (with_reducible refine HaltK.mk ?_) | (with_reducible refine StopK.mk ?_)); (with_reducible conv => whnf); (with_reducible conv => congr <;> reduce)))
  · obtain rfl : l = [] := by simpa using h
    refine ⟨⟨rfl, rfl⟩, ?_, ?_⟩ <;> (with_reducible conv => whnf) <;> repeat' (first | (with_reducible exact trivial) | (with_reducible refine And.intro ?_ ?_ <;> with_reducible conv => whnf))
    all_goals first | rfl | trivial
  · refine AppK.mk [] (l.map oAttr) ⟨rfl, rfl, rfl⟩ ⟨rfl, rfl, rfl⟩ (one_attrs l) (by simp; omega) (by simp; omega) ?_; ((with_reducible conv => whnf); (with_reducible conv => congr <;> reduce); repeat ((first | (with_reducible refine HaltK.mk ?_) | (with_reducible refine StopK.mk ?_)); (with_reducible conv => whnf); (with_reducible conv => congr <;> reduce)))
    refine ⟨⟨rfl, rfl⟩, ?_, ?_⟩ <;> (with_reducible conv => whnf) <;> repeat' (first | (with_reducible exact trivial) | (with_reducible refine And.intro ?_ ?_ <;> with_reducible conv => whnf))
    · exact hlm.symm
    · exact MFL_refl (noRef_attrs l)
theorem f9_ok (l : List AttrM) : FnOK Try.prog 9 [] [eAttrs l] [] (eBool (decide (l.length ≤ 60))) := by
  refine FnOK.startC (rvs := [.tmp 2]) G G_good Try.func9 rfl Try.ntmps9 rfl rfl ?_; delta List.toArray; ((with_reducible conv => whnf); (with_reducible conv => congr <;> reduce); repeat ((first | (with_reducible refine HaltK.mk ?_) | (with_reducible refine StopK.mk ?_)); (with_reducible conv => whnf); (with_reducible conv => congr <;> reduce)))
  refine ⟨⟨rfl, rfl⟩, ?_, ?_⟩ <;> (with_reducible conv => whnf) <;> repeat' (first | (with_reducible exact trivial) | (with_reducible refine And.intro ?_ ?_ <;> with_reducible conv => whnf))
  simp; omega
theorem f38_ok (a : AttrM) (n : ByteArray) : FnOK Try.prog 38 [] [eAttr a, .fptr (eStr n) 0] [] (eBool (decide (a.name = n))) := by
  refine FnOK.startC (rvs := [.tmp 3]) G G_good Try.func38 rfl Try.ntmps38 rfl rfl ?_; delta List.toArray; ((with_reducible conv => whnf); (with_reducible conv => congr <;> reduce); repeat ((first | (with_reducible refine HaltK.mk ?_) | (with_reducible refine StopK.mk ?_)); (with_reducible conv => whnf); (with_reducible conv => congr <;> reduce)))
  refine ⟨⟨rfl, rfl⟩, ?_, ?_⟩ <;> (with_reducible conv => whnf) <;> repeat' (first | (with_reducible exact trivial) | (with_reducible refine And.intro ?_ ?_ <;> with_reducible conv => whnf))
def badA (a : AttrM) : Bool := !(rightS a.name && decide (lowS a.name = a.name) && decide (a.value.size ≤ 200))
theorem f29_ok (a : AttrM) : FnOK Try.prog 29 [] [eAttr a] [] (eBool (badA a)) := by
  obtain ⟨n, v⟩ := a
  refine FnOK.startC (rvs := [.tmp 2]) G G_good Try.func29 rfl Try.ntmps29 rfl rfl ?_; delta List.toArray; ((with_reducible conv => whnf); (with_reducible conv => congr <;> reduce); repeat ((first | (with_reducible refine HaltK.mk ?_) | (with_reducible refine StopK.mk ?_)); (with_reducible conv => whnf); (with_reducible conv => congr <;> reduce)))
  refine CallK.lit [] (f30_ok _) c30 ⟨rfl, trivial⟩ rfl rfl ?_; ((with_reducible conv => whnf); (with_reducible conv => congr <;> reduce); repeat ((first | (with_reducible refine HaltK.mk ?_) | (with_reducible refine StopK.mk ?_)); (with_reducible conv => whnf); (with_reducible conv => congr <;> reduce)))
  repeat' (first
    | ((with_reducible show IfK _ _ _ _); first
      | (refine IfK.yes (by assumption) ?_; ((with_reducible conv => whnf); (with_reducible conv => congr <;> reduce); repeat ((first | (with_reducible refine HaltK.mk ?_) | (with_reducible refine StopK.mk ?_)); (with_reducible conv => whnf); (with_reducible conv => congr <;> reduce))))
      | (refine IfK.no (by assumption) ?_; ((with_reducible conv => whnf); (with_reducible conv => congr <;> reduce); repeat ((first | (with_reducible refine HaltK.mk ?_) | (with_reducible refine StopK.mk ?_)); (with_reducible conv => whnf); (with_reducible conv => congr <;> reduce))))
      | (with_reducible refine IfK.yes Bool.not_false ?_; ((with_reducible conv => whnf); (with_reducible conv => congr <;> reduce); repeat ((first | (with_reducible refine HaltK.mk ?_) | (with_reducible refine StopK.mk ?_)); (with_reducible conv => whnf); (with_reducible conv => congr <;> reduce))))
      | (with_reducible refine IfK.no Bool.not_true ?_; ((with_reducible conv => whnf); (with_reducible conv => congr <;> reduce); repeat ((first | (with_reducible refine HaltK.mk ?_) | (with_reducible refine StopK.mk ?_)); (with_reducible conv => whnf); (with_reducible conv => congr <;> reduce))))
      | (with_reducible refine IfK.yes (nf (by assumption)) ?_; ((with_reducible conv => whnf); (with_reducible conv => congr <;> reduce); repeat ((first | (with_reducible refine HaltK.mk ?_) | (with_reducible refine StopK.mk ?_)); (with_reducible conv => whnf); (with_reducible conv => congr <;> reduce))))
      | (with_reducible refine IfK.no (nt (by assumption)) ?_; ((with_reducible conv => whnf); (with_reducible conv => congr <;> reduce); repeat ((first | (with_reducible refine HaltK.mk ?_) | (with_reducible refine StopK.mk ?_)); (with_reducible conv => whnf); (with_reducible conv => congr <;> reduce))))
      | (with_reducible refine IfK.tt ?_; ((with_reducible conv => whnf); (with_reducible conv => congr <;> reduce); repeat ((first | (with_reducible refine HaltK.mk ?_) | (with_reducible refine StopK.mk ?_)); (with_reducible conv => whnf); (with_reducible conv => congr <;> reduce))))
      | (with_reducible refine IfK.ff ?_; ((with_reducible conv => whnf); (with_reducible conv => congr <;> reduce); repeat ((first | (with_reducible refine HaltK.mk ?_) | (with_reducible refine StopK.mk ?_)); (with_reducible conv => whnf); (with_reducible conv => congr <;> reduce))))
      | (refine IfK.mk (fun _ => ?_) (fun _ => ?_) <;> ((with_reducible conv => whnf); (with_reducible conv => congr <;> reduce); repeat ((first | (with_reducible refine HaltK.mk ?_) | (with_reducible refine StopK.mk ?_)); (with_reducible conv => whnf); (with_reducible conv => congr <;> reduce)))))
    | ((with_reducible show (_ ∧ _) ∧ _ ∧ _); refine ⟨⟨rfl, rfl⟩, ?_, ?_⟩ <;> (with_reducible conv => whnf) <;> repeat' (first | (with_reducible exact trivial) | (with_reducible refine And.intro ?_ ?_ <;> with_reducible conv => whnf))))
  all_goals (unfold badA; cases hr : rightS n <;> simp_all)
  by_cases h2 : v.size ≤ 200
  · rw [decide_eq_true h2, decide_eq_false (by (try simp only [castN]); omega)]; rfl
  · rw [decide_eq_false h2, decide_eq_true (by (try simp only [castN]); omega)]; rfl
def idxI {α : Type} (p : α → Bool) (l : List α) : Int := match l.findIdx? p with | some i => (i : Int) | none => -1
theorem idxI_hit {α : Type} {p : α → Bool} {l : List α} {k : Nat} {a : α} (h : l[k]? = some a) (hp : p a = true) (hno : ∀ (j : Nat) (x : α), j < k → l[j]? = some x → p x = false) : idxI p l = k := by
  have : l.findIdx? p = some k := by
    rw [List.findIdx?_eq_some_iff_getElem]
    obtain ⟨hk, hx⟩ := List.getElem?_eq_some_iff.1 h
    exact ⟨hk, by rw [hx]; exact hp, fun j hj => by simpa using hno j _ hj (List.getElem?_eq_getElem (by omega))⟩
  rw [idxI, this]
theorem idxI_none {α : Type} {p : α → Bool} {l : List α} (hno : ∀ (j : Nat) (x : α), l[j]? = some x → p x = false) : idxI p l = -1 := by
  have : l.findIdx? p = none := by
    rw [List.findIdx?_eq_none_iff]
    intro x hx
    obtain ⟨j, hj⟩ := List.getElem?_of_mem hx
    exact hno j x hj
  rw [idxI, this]
theorem attr_get {l : List AttrM} {k : Nat} {a : AttrM} (h : l[k]? = some a) : (l.map oAttr)[k]? = some (eAttr a) := by rw [List.getElem?_map, h]; rfl
/-- slices.IndexFunc -/
theorem f37_ok (g : Nat) (cg : Callable Try.prog g) (caps : List AV) (hcaps : noRefL caps = true) (p : AttrM → Bool) (l : List AttrM) (hl : l.length ≤ 100000) (hf : ∀ a, a ∈ l → FnOK Try.prog g [] (eAttr a :: caps) [] (eBool (p a))) :
    FnOK Try.prog 37 [] [eAttrs l, .clo (.func g) [] caps] [] (eInt (idxI p l)) := by
  have hlm : (l.map oAttr).length = l.length := List.length_map ..
  refine FnOK.startC (rvs := [.tmp 4]) G G_good Try.func37 rfl Try.ntmps37 rfl rfl ?_; delta List.toArray; ((with_reducible conv => whnf); (with_reducible conv => congr <;> reduce); repeat ((first | (with_reducible refine HaltK.mk ?_) | (with_reducible refine StopK.mk ?_)); (with_reducible conv => whnf); (with_reducible conv => congr <;> reduce)))
  refine LoopK.use G G_good (fun (k : Nat) => [(0, eAttrs l), (1, .clo (.func g) [] caps), (7, eInt l.length), (8, eInt k)]) (fun _ => []) (fun k => k ≤ l.length ∧ ∀ j x, j < k → l[j]? = some x → p x = false) (fun k => l.length - k) 0 ⟨Nat.zero_le _, fun j x h => by omega⟩
    ⟨⟨rfl, rfl⟩, ⟨rfl, ⟨rfl, trivial, MFL_refl hcaps⟩, by show (l.length : Int) = ((l.map oAttr).length : Int); rw [hlm], rfl, trivial⟩, trivial⟩ ?_
  rintro k ⟨hk, hno⟩
  ((with_reducible conv => whnf); (with_reducible conv => congr <;> reduce); repeat ((first | (with_reducible refine HaltK.mk ?_) | (with_reducible refine StopK.mk ?_)); (with_reducible conv => whnf); (with_reducible conv => congr <;> reduce)))
  refine IfK.mk (fun h1 => ?_) (fun h1 => ?_) <;> (try simp only [castN] at h1) <;> ((with_reducible conv => whnf); (with_reducible conv => congr <;> reduce); repeat ((first | (with_reducible refine HaltK.mk ?_) | (with_reducible refine StopK.mk ?_)); (with_reducible conv => whnf); (with_reducible conv => congr <;> reduce)))
  · simp only [decide_eq_true_eq] at h1
    have hk' : k < l.length := by omega
    obtain ⟨a, ha⟩ : ∃ a, l[k]? = some a := ⟨_, List.getElem?_eq_getElem hk'⟩
    refine IdxK.mk k (eAttr a) rfl (attr_get ha) ?_; ((with_reducible conv => whnf); (with_reducible conv => congr <;> reduce); repeat ((first | (with_reducible refine HaltK.mk ?_) | (with_reducible refine StopK.mk ?_)); (with_reducible conv => whnf); (with_reducible conv => congr <;> reduce)))
    refine CallK.lit [] (hf a (List.mem_of_getElem? ha)) cg ⟨⟨rfl, rfl, trivial⟩, MFL_refl hcaps⟩ rfl rfl ?_; ((with_reducible conv => whnf); (with_reducible conv => congr <;> reduce); repeat ((first | (with_reducible refine HaltK.mk ?_) | (with_reducible refine StopK.mk ?_)); (with_reducible conv => whnf); (with_reducible conv => congr <;> reduce)))
    refine IfK.mk (fun h2 => ?_) (fun h2 => ?_) <;> (try simp only [castN] at h2) <;> ((with_reducible conv => whnf); (with_reducible conv => congr <;> reduce); repeat ((first | (with_reducible refine HaltK.mk ?_) | (with_reducible refine StopK.mk ?_)); (with_reducible conv => whnf); (with_reducible conv => congr <;> reduce)))
    · refine ⟨⟨rfl, rfl⟩, ?_, ?_⟩ <;> (with_reducible conv => whnf) <;> repeat' (first | (with_reducible exact trivial) | (with_reducible refine And.intro ?_ ?_ <;> with_reducible conv => whnf))
      exact idxI_hit ha h2 hno
    · refine NeedK.mk (by (try simp only [castN]); omega) ?_; ((with_reducible conv => whnf); (with_reducible conv => congr <;> reduce); repeat ((first | (with_reducible refine HaltK.mk ?_) | (with_reducible refine StopK.mk ?_)); (with_reducible conv => whnf); (with_reducible conv => congr <;> reduce)))
      refine NextK.mk (k + 1) ⟨by omega, fun j x hj hx => ?_⟩ (by omega) ⟨⟨rfl, rfl⟩, ⟨rfl, ⟨rfl, trivial, MFL_refl hcaps⟩, rfl, by show ((k + 1 : Nat) : Int) = (k : Int) + 1; omega, trivial⟩, trivial⟩
      rcases Nat.lt_or_ge j k with h6 | h6
      · exact hno j x h6 hx
      · have : j = k := by omega
        subst this
        rw [ha] at hx; cases hx; exact h2
  · refine ⟨⟨rfl, rfl⟩, ?_, ?_⟩ <;> (with_reducible conv => whnf) <;> repeat' (first | (with_reducible exact trivial) | (with_reducible refine And.intro ?_ ?_ <;> with_reducible conv => whnf))
    have : k = l.length := by simp only [decide_eq_false_iff_not] at h1; omega
    exact idxI_none fun j x hx => hno j x (by have := (List.getElem?_eq_some_iff.1 hx).1; omega) hx
theorem f31_ok (g : Nat) (cg : Callable Try.prog g) (caps : List AV) (hcaps : noRefL caps = true) (p : AttrM → Bool) (l : List AttrM) (hl : l.length ≤ 100000) (hf : ∀ a, a ∈ l → FnOK Try.prog g [] (eAttr a :: caps) [] (eBool (p a))) :
    FnOK Try.prog 31 [] [eAttrs l, .clo (.func g) [] caps] [] (eBool (l.any p)) := by
  refine FnOK.startC (rvs := [.tmp 4]) G G_good Try.func31 rfl Try.ntmps31 rfl rfl ?_; delta List.toArray; ((with_reducible conv => whnf); (with_reducible conv => congr <;> reduce); repeat ((first | (with_reducible refine HaltK.mk ?_) | (with_reducible refine StopK.mk ?_)); (with_reducible conv => whnf); (with_reducible conv => congr <;> reduce)))
  refine CallK.lit [] (f37_ok g cg caps hcaps p l hl hf) c37 ⟨rfl, ⟨rfl, trivial, MFL_refl hcaps⟩, trivial⟩ rfl rfl ?_; ((with_reducible conv => whnf); (with_reducible conv => congr <;> reduce); repeat ((first | (with_reducible refine HaltK.mk ?_) | (with_reducible refine StopK.mk ?_)); (with_reducible conv => whnf); (with_reducible conv => congr <;> reduce)))
  refine ⟨⟨rfl, rfl⟩, ?_, ?_⟩ <;> (with_reducible conv => whnf) <;> repeat' (first | (with_reducible exact trivial) | (with_reducible refine And.intro ?_ ?_ <;> with_reducible conv => whnf))
  unfold idxI
  cases h : l.findIdx? p with
  | none =>
    rw [List.findIdx?_eq_none_iff] at h
    have : l.any p = false := by rw [List.any_eq_false]; intro x hx; rw [h x hx]; simp
    rw [this]; rfl
  | some i =>
    rw [List.findIdx?_eq_some_iff_getElem] at h
    obtain ⟨hi, h1, _⟩ := h
    have : l.any p = true := List.any_eq_true.2 ⟨_, List.getElem_mem hi, h1⟩
    rw [this]; exact (decide_eq_true (Int.natCast_nonneg i)).symm
theorem f35_ok (l : List AttrM) (hl : l.length ≤ 100000) (n : ByteArray) : FnOK Try.prog 35 [] [eAttrs l, eStr n] [] (eInt (idxI (fun a => decide (a.name = n)) l)) := by
  refine FnOK.startC (rvs := [.tmp 4]) G G_good Try.func35 rfl Try.ntmps35 rfl rfl ?_; delta List.toArray; ((with_reducible conv => whnf); (with_reducible conv => congr <;> reduce); repeat ((first | (with_reducible refine HaltK.mk ?_) | (with_reducible refine StopK.mk ?_)); (with_reducible conv => whnf); (with_reducible conv => congr <;> reduce)))
  refine CallK.lit [30] (f37_ok 38 c38 [.fptr (eStr n) 0] rfl (fun a => decide (a.name = n)) l hl fun a _ => f38_ok a n) c37 ⟨rfl, ⟨rfl, trivial, ⟨_, _, _, _, _, rfl, rfl, rfl, rfl, rfl, rfl⟩, trivial⟩, trivial⟩ rfl rfl ?_; ((with_reducible conv => whnf); (with_reducible conv => congr <;> reduce); repeat ((first | (with_reducible refine HaltK.mk ?_) | (with_reducible refine StopK.mk ?_)); (with_reducible conv => whnf); (with_reducible conv => congr <;> reduce)))
  refine ⟨⟨rfl, rfl⟩, ?_, ?_⟩ <;> (with_reducible conv => whnf) <;> repeat' (first | (with_reducible exact trivial) | (with_reducible refine And.intro ?_ ?_ <;> with_reducible conv => whnf))
end Go.Proofs.Attr
end
section
namespace Go.Proofs.Attr
open Go.Am Go.RowKit Go.Lib
set_option maxRecDepth 100000
theorem setCells_row (b : Nat) (e : TypeId) (fz : Nat × Nat) : ∀ (vs : List Value) (o : Nat) (C : Array Value) (w : World), w.heap[b]? = some (.cells C e fz) → o + vs.length ≤ C.size →
    ∃ C', w.setCells b o vs = w.setRow b C' ∧ C'.size = C.size ∧ ∀ q, C'[q]? = if o ≤ q ∧ q < o + vs.length then vs[q - o]? else C[q]?
  | [], o, C, w, h, _ => ⟨C, (setRow_self w b C e fz h).symm, rfl, fun q => by rw [if_neg (by simp only [List.length_nil]; omega)]⟩
  | v :: r, o, C, w, h, hl => by
    have h1 : w.setCell ⟨b, o, none⟩ v = w.setRow b (C.setIfInBounds o v) := by
      have hb := (Array.getElem?_eq_some_iff.1 h)
      unfold World.setCell World.setRow
      congr 1
      apply Array.ext_getElem?
      intro k
      rw [Array.getElem?_modify, Array.getElem?_modify]
      by_cases hk : b = k
      · subst hk; simp [h]
      · simp [hk]
    have h2 := setRow_heap w b C (C.setIfInBounds o v) e fz h
    obtain ⟨C', k1, k2, k3⟩ := setCells_row b e fz r (o + 1) (C.setIfInBounds o v) (w.setRow b (C.setIfInBounds o v)) h2 (by simp at hl ⊢; omega)
    refine ⟨C', by rw [World.setCells, h1, k1, setRow_setRow], by simp [k2], fun q => ?_⟩
    rw [k3 q, Array.getElem?_setIfInBounds]
    simp only [List.length_cons] at hl ⊢
    by_cases hq : q = o
    · subst hq
      rw [if_neg (by omega), if_pos rfl, if_pos (by omega), if_pos (by omega), Nat.sub_self]; rfl
    · by_cases hq2 : o + 1 ≤ q ∧ q < o + 1 + r.length
      · rw [if_pos hq2, if_pos (by omega), show q - o = (q - (o + 1)) + 1 from by omega, List.getElem?_cons_succ]
      · rw [if_neg hq2, if_neg (fun h => hq h.symm), if_neg (by omega)]
theorem clear2_run (w : World) (ty : TypeId) (b o n c : Nat) (e : TypeId) (C : Array Value) (h : w.heap[b]? = some (.cells C e (0, 0))) (hn : 0 < n) (hl : o + n * 2 ≤ C.size) :
    ∃ C', (Builtin.clear_ #[22] ty #[.slice (some ⟨b, o, none⟩) n c]).run Try.prog w = .ok (.tuple #[]) (w.setRow b C') ∧ C'.size = C.size ∧ ∀ q, q < o → C'[q]? = C[q]? := by
  obtain ⟨Z, hZ⟩ : ∃ Z : List Value, (Builtin.zeroCells (Value.agg #[.string ⟨#[]⟩, .string ⟨#[]⟩]).cells n).toList = Z := ⟨_, rfl⟩
  have hsz : Z.length = n * 2 := by
    rw [← hZ, Array.length_toList, size_zeroCells]; rfl
  have hone : ∀ v ∈ Z, v.oneCell' = true := by
    intro v hv
    rw [← hZ, Array.mem_toList_iff, Builtin.zeroCells, Array.mem_map] at hv
    obtain ⟨i, _, rfl⟩ := hv
    show (#[Value.string ⟨#[]⟩, .string ⟨#[]⟩][i % 2]!).oneCell' = true
    rcases Nat.mod_two_eq_zero_or_one i with h | h <;> rw [h] <;> rfl
  have hst := run_storeCells_at (P := Try.prog) b o e Z 0 C w h (by rw [hsz]; omega) hone
  rw [Nat.add_zero] at hst
  refine ⟨(C.toList.take o ++ Z ++ C.toList.drop (o + Z.length)).toArray, ?_, ?_, ?_⟩
  · obtain ⟨m, rfl⟩ : ∃ m, n = m + 1 := ⟨n - 1, by omega⟩
    have hu := Try.underlying22
    have hz := Try.zeroValue41
    simp [Builtin.clear_, run_underlying hu, hz, hZ, hst]
  · simp [hsz]; omega
  · intro q hq
    simp only [List.getElem?_toArray]
    rw [List.append_assoc, List.getElem?_append_left (by simp; omega), List.getElem?_take, if_pos hq, Array.getElem?_toList]
set_option maxHeartbeats 2000000 in
theorem f28_calls (blk off cap n i j : Nat) (C : Array Value) (e : TypeId) (w : World) (hC : w.heap[blk]? = some (.cells C e (0, 0))) (hfit : off + cap * 2 ≤ C.size) (hn : n ≤ cap) (hij : i < j) (hj : j ≤ n)
    (hone : ∀ q v, q < n * 2 → C[off + q]? = some v → v.oneCell' = true) :
    Calls Try.prog 28 #[.slice (some ⟨blk, off, none⟩) n cap, .int .i64 i, .int .i64 j] w fun e' w' => e' = .returned (.slice (some ⟨blk, off, none⟩) (i + (n - j)) cap) ∧
      ∃ C', w' = w.drew.setRow blk C' ∧ C'.size = C.size ∧ ∀ q, q < (i + (n - j)) * 2 → C'[off + q]? = if q < i * 2 then C[off + q]? else C[off + q + (j - i) * 2]? := by
  obtain ⟨news, hnews⟩ : ∃ news, news = (C.toList.drop (off + j * 2)).take ((n - j) * 2) := ⟨_, rfl⟩
  have hCl : C.toList.length = C.size := Array.length_toList
  have hlen : news.length = (n - j) * 2 := by rw [hnews, List.length_take, List.length_drop, hCl]; omega
  have hget : ∀ t, t < (n - j) * 2 → news[t]? = C[off + j * 2 + t]? := by
    intro t ht
    rw [hnews, List.getElem?_take, if_pos ht, List.getElem?_drop, Array.getElem?_toList]
  have hcell : ∀ q, w.drew.cell? ⟨blk, q, none⟩ = C[q]? := fun q => by
    show w.cell? _ = _
    simp [World.cell?, hC]
  obtain ⟨A, hA, hsrc⟩ : ∃ A : Addr, (if cap = j then some (⟨blk, off, none⟩ : Addr) else some ⟨blk, off + j * 2, none⟩) = some A ∧ Hid (∀ t u, news[t]? = some u → w.drew.cell? (A.add t) = some u) := by
    by_cases h : cap = j
    · refine ⟨⟨blk, off, none⟩, by simp [h], fun t u hu => ?_⟩
      have h0 : news.length = 0 := by rw [hlen]; omega
      rw [List.length_eq_zero_iff.1 h0] at hu
      simp at hu
    · refine ⟨⟨blk, off + j * 2, none⟩, by simp [h], fun t u hu => ?_⟩
      have ht : t < (n - j) * 2 := by
        have := (List.getElem?_eq_some_iff.1 hu).1
        rwa [hlen] at this
      rw [hget t ht] at hu
      rw [Addr.add_lit, hcell]
      exact hu
  have s1 : Hid (news.length = (n - j) * 2) := hlen
  have s2 : Hid (∀ u ∈ news, u.oneCell' = true) := by
    intro u hu
    obtain ⟨t, ht⟩ := List.getElem?_of_mem hu
    have hlt := (List.getElem?_eq_some_iff.1 ht).1
    rw [hlen] at hlt
    rw [hget t hlt, Nat.add_assoc] at ht
    exact hone _ u (by omega) ht
  have s3 : Hid (∀ t, t < news.length → (w.drew.cell? ⟨blk, off + i * 2 + t, none⟩).isSome = true ∧ w.drew.frozen? ⟨blk, off + i * 2 + t, none⟩ = false) := by
    intro t ht
    rw [hlen] at ht
    refine ⟨?_, ?_⟩
    · rw [hcell, Array.getElem?_eq_getElem (by omega)]; rfl
    · show w.frozen? _ = false
      simp [World.frozen?, hC]
  obtain ⟨C1, hC1, hC1s, hC1q⟩ := setCells_row blk e (0, 0) news (off + i * 2) C w.drew hC (by rw [hlen]; omega)
  obtain ⟨W1, hW1⟩ : ∃ W1, W1 = w.drew.setCells blk (off + i * 2) news := ⟨_, rfl⟩
  have hW1h : W1.heap[blk]? = some (.cells C1 e (0, 0)) := by rw [hW1, hC1]; exact setRow_heap w.drew blk C C1 e (0, 0) hC
  obtain ⟨C2, hcl0, hC2s, hC2q⟩ := clear2_run W1 0 blk (off + (i + (n - j)) * 2) (n - (i + (n - j))) (cap - (i + (n - j))) e C1 hW1h (by omega) (by omega)
  have hcl : ∀ ty, (Builtin.clear_ #[22] ty #[.slice (some ⟨blk, off + (i + (n - j)) * 2, none⟩) (n - (i + (n - j))) (cap - (i + (n - j)))]).run Try.prog W1 = .ok (.tuple #[]) (W1.setRow blk C2) := fun ty => hcl0
  have hW : Hid (W1 = w.drew.setCells blk (off + i * 2) news) := hW1
  have hfin : Hid (W1.setRow blk C2 = w.drew.setRow blk C2 ∧ C2.size = C.size ∧ ∀ q, q < (i + (n - j)) * 2 → C2[off + q]? = if q < i * 2 then C[off + q]? else C[off + q + (j - i) * 2]?) := by
    refine ⟨by rw [hW1, hC1, setRow_setRow], by omega, fun q hq => ?_⟩
    rw [hC2q _ (by omega), hC1q, hlen]
    by_cases h : q < i * 2
    · rw [if_pos h, if_neg (by omega)]
    · rw [if_neg h, if_pos (by omega), hget _ (by omega)]
      congr 1; omega
  have hic : i ≤ cap := by omega
  have hjc : j ≤ cap := by omega
  obtain ⟨i0, hi0, hz1⟩ : ∃ i0, Try.prog.info? 41 = some i0 ∧ i0.size = 2 := ⟨(Try.prog.info? 41).getD default, by kernel_rfl, by kernel_rfl⟩
  clear hW1 hW1h hC1 hC1s hC1q hC2s hC2q hcl0 hget hcell hnews hlen hone hC hCl
  have mixed : Try.prog.follows Departure.mixedOrders = true := by kernel_rfl
  go_enter Try.func28, Try.ntmps28
  go_wp2_with fail
  go_region_law_o (refine step_append_room rfl (.tmp 22) (.tmp 25) 22 rfl 41 i0 2 Try.underlying22 hi0 hz1 blk off i cap (by simp [Act.eval, Act.put]) A (n - j) (cap - j) news (by simp [Act.eval, Act.put]) s1.out hsrc.out s2.out (by omega) s3.out ?_; rw [← hW.out])
  go_wp2
  go_ret
  exact ⟨rfl, C2, hfin.out⟩
theorem delete_ok {rows : List AV} (hone : oneL (flat rows) = true) (i j : Nat) (hij : i < j) (hj : j ≤ rows.length) :
    FnOK Try.prog 28 [.live 2 rows false] [.own 0 0 rows.length, eInt i, eInt j] [.dead, .live 2 (rows.take i ++ rows.drop j) false] (.own 1 0 (i + (rows.length - j))) := by
  intro w W0 L vs hL hs hr
  obtain ⟨v0, v1, v2, rfl⟩ : ∃ v0 v1 v2, vs = [v0, v1, v2] := by
    have := hr.1
    match vs, this with
    | [a, b, c], _ => exact ⟨a, b, c, rfl⟩
  have h1 := hr.2 1 _ v1 rfl rfl
  have h2 := hr.2 2 _ v2 rfl rfl
  cases h1; cases h2
  have h0 := hr.2 0 _ v0 rfl rfl
  obtain ⟨B, hB, hobj⟩ := hs.objs 0 2 rows false rfl
  generalize hn : rows.length = n at h0
  cases h0 with
  | ownNil a1 => omega
  | @own _ _ _ cap e' n' B' a1 av ap a2 a3 a4 =>
    rw [hB] at a1; cases a1
    subst hn
    obtain ⟨C, e, fz, c1, c2, c3⟩ := hobj.blk av ap
    rw [c2 rfl] at c1
    have hwd := hobj.width
    have hn' : C.size = n' := by simp [World.shape?, c1] at a3; exact a3.2
    rw [hwd, Nat.zero_mul, Nat.add_zero]
    rw [hwd, Nat.zero_add] at a4
    have hfl := flat_length hobj.wide
    have hcell : ∀ (q : Nat) (c : AV), (flat rows)[q]? = some c → ∃ v, C[B.o + q]? = some v ∧ Rep (Wr W0 L (objsOf [.live 2 rows false])) L w c v := fun q c hq => by
      obtain ⟨v, k1, k2⟩ := hobj.cell ap q c hq
      exact ⟨v, by simpa [World.cell?, c1] using k1, k2⟩
    refine (f28_calls B.b B.o cap rows.length i j C e w c1 (by omega) a2 hij hj (fun q v hq hv => ?_)).mono ?_
    · obtain ⟨v', k1, k2⟩ := hcell q _ (List.getElem?_eq_getElem (by rw [hfl]; omega))
      rw [hv] at k1; cases k1
      exact k2.one (List.all_eq_true.1 hone _ (List.getElem_mem _))
    · rintro e2 w' ⟨rfl, C', rfl, hsz, hq⟩
      have hwide : Wide 2 (rows.take i ++ rows.drop j) := (hobj.wide.sub fun r hr => List.mem_of_mem_take hr).append (hobj.wide.sub fun r hr => List.mem_of_mem_drop hr)
      have hlen : (rows.take i ++ rows.drop j).length = i + (rows.length - j) := by simp; omega
      have hre := (hs.drawn (w.drawn + 1)).reuse (t := 0) (tn := 1) (off := 0) (rows' := rows.take i ++ rows.drop j) (C' := C') rfl hB av rfl c1 hsz hwide (by rw [hlen]; omega) (fun q c hc => by
        rw [flat_append, flat_take hobj.wide, flat_drop hobj.wide, List.getElem?_append, List.length_take, hfl, Nat.min_eq_left (by omega)] at hc
        have hlt := hq q
        rw [Nat.zero_mul, Nat.add_zero]
        split at hc
        · rename_i hql
          rw [List.getElem?_take, if_pos hql] at hc
          obtain ⟨v, k1, k2⟩ := hcell q c hc
          exact ⟨v, by rw [hq q (by omega), if_pos hql]; exact k1, k2.grow (Grow.drawn _)⟩
        · rename_i hql
          rw [List.getElem?_drop] at hc
          have hin := (List.getElem?_eq_some_iff.1 hc).1
          rw [hfl] at hin
          obtain ⟨v, k1, k2⟩ := hcell _ c hc
          refine ⟨v, ?_, k2.grow (Grow.drawn _)⟩
          rw [hq q (by omega), if_neg hql, ← k1]
          congr 1; omega)
      have hst : (⟨(bare [.live 2 rows false]).slots, updM (bare [.live 2 rows false]).mem [(1, .live 2 (rows.take i ++ rows.drop j) false), (0, .dead)]⟩ : AState) = bare [.dead, .live 2 (rows.take i ++ rows.drop j) false] := by
        unfold bare
        congr 1
        funext t
        match t with
        | 0 => rfl
        | 1 => rfl
        | t + 2 => simp [updM, objsOf]
      rw [hst] at hre
      refine ⟨_, _, rfl, hre, ?_⟩
      have := Rep.own (W := Wr W0 (setMu L 1 ⟨B.b, B.o + 0 * 2, 2, false, false⟩) (objsOf [.dead, .live 2 (rows.take i ++ rows.drop j) false])) (μ := setMu L 1 ⟨B.b, B.o + 0 * 2, 2, false, false⟩)
        (w := w.drew.setRow B.b C') (t := 1) (off := 0) (len := i + (rows.length - j)) (cap := cap) (e := e) (n := C.size) (B := ⟨B.b, B.o + 0 * 2, 2, false, false⟩) (by simp [setMu]) rfl rfl (by omega)
        (by simp [World.shape?, setRow_heap w.drew B.b C C' e (0, 0) c1, hsz]) (by simp only [Nat.zero_add]; omega)
      simpa using this
end Go.Proofs.Attr
end
