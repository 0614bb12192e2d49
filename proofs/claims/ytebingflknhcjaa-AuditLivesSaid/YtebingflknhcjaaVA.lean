/- The audit's model and plain laws; contracts of piles and of what stands. By an AI agent. -/
import Derived.Test.YtebingflknhcjaaBmA
import Derived.Test.YtebingflknhcjaaChecked
import Derived.Laws.StructEq
import Derived.Tactics
section
set_option linter.unusedSimpArgs false
set_option linter.unusedVariables false
namespace Go.Proofs.Audit
open Go.Am
set_option maxRecDepth 100000
theorem g1 : TI.ok Try.prog 1 (.sc .nilFunc) := ⟨fun _ => by kernel_rfl, fun _ => by kernel_rfl, fun _ => by kernel_rfl⟩
theorem g2 : TI.ok Try.prog 2 (.sc (.int .i64 0)) := ⟨fun _ => by kernel_rfl, fun _ => by kernel_rfl, fun _ => by kernel_rfl⟩
theorem g3 : TI.ok Try.prog 3 (.sc (.int .i64 0)) := ⟨fun _ => by kernel_rfl, fun _ => by kernel_rfl, fun _ => by kernel_rfl⟩
theorem g4 : TI.ok Try.prog 4 (.bl) := ⟨fun _ => by kernel_rfl, fun _ => by kernel_rfl, fun _ => by kernel_rfl, by kernel_rfl⟩
theorem g5 : TI.ok Try.prog 5 (.sc (.int .u8 0)) := ⟨fun _ => by kernel_rfl, fun _ => by kernel_rfl, fun _ => by kernel_rfl⟩
theorem g9 : TI.ok Try.prog 9 (.str) := ⟨fun _ => by kernel_rfl, fun _ => by kernel_rfl, fun _ => by kernel_rfl, by kernel_rfl⟩
theorem g12 : TI.ok Try.prog 12 (.sc (.int .u64 0)) := ⟨fun _ => by kernel_rfl, fun _ => by kernel_rfl, fun _ => by kernel_rfl⟩
theorem g15 : TI.ok Try.prog 15 (.sc (.pointer none)) := ⟨fun _ => by kernel_rfl, fun _ => by kernel_rfl, fun _ => by kernel_rfl⟩
theorem g16 : TI.ok Try.prog 16 (.sc (.pointer none)) := ⟨fun _ => by kernel_rfl, fun _ => by kernel_rfl, fun _ => by kernel_rfl⟩
theorem g17 : TI.ok Try.prog 17 (.sc (.pointer none)) := ⟨fun _ => by kernel_rfl, fun _ => by kernel_rfl, fun _ => by kernel_rfl⟩
theorem g20 : TI.ok Try.prog 20 (.sc .nilIface) := ⟨fun _ => by kernel_rfl, fun _ => by kernel_rfl, fun _ => by kernel_rfl⟩
theorem g21 : TI.ok Try.prog 21 (.sc (.int .i32 0)) := ⟨fun _ => by kernel_rfl, fun _ => by kernel_rfl, fun _ => by kernel_rfl⟩
theorem g22 : TI.ok Try.prog 22 (.sl 34 13 120) := ⟨fun _ => by kernel_rfl, fun _ => by kernel_rfl, fun _ => by kernel_rfl, fun _ => by kernel_rfl, (Try.prog.info? 34).getD default, (.agg #[(.int .i64 0), (.int .i64 0), (.int .i64 0), (.int .i64 0), (.int .i64 0), (.string ByteArray.empty), (.bool false), (.bool false), (.string ByteArray.empty), (.string ByteArray.empty), (.int .i64 0), (.int .i64 0), (.bool false)]), ⟨by kernel_rfl, by kernel_rfl, by kernel_rfl, by kernel_rfl, by kernel_rfl, by kernel_rfl⟩⟩
theorem g23 : TI.ok Try.prog 23 (.sc .nilFunc) := ⟨fun _ => by kernel_rfl, fun _ => by kernel_rfl, fun _ => by kernel_rfl⟩
theorem g24 : TI.ok Try.prog 24 (.sc .nilFunc) := ⟨fun _ => by kernel_rfl, fun _ => by kernel_rfl, fun _ => by kernel_rfl⟩
theorem g25 : TI.ok Try.prog 25 (.sc .nilFunc) := ⟨fun _ => by kernel_rfl, fun _ => by kernel_rfl, fun _ => by kernel_rfl⟩
theorem g26 : TI.ok Try.prog 26 (.sc .nilFunc) := ⟨fun _ => by kernel_rfl, fun _ => by kernel_rfl, fun _ => by kernel_rfl⟩
theorem g27 : TI.ok Try.prog 27 (.sl 3 1 8) := ⟨fun _ => by kernel_rfl, fun _ => by kernel_rfl, fun _ => by kernel_rfl, fun _ => by kernel_rfl, (Try.prog.info? 3).getD default, (.int .i64 0), ⟨by kernel_rfl, by kernel_rfl, by kernel_rfl, by kernel_rfl, by kernel_rfl, by kernel_rfl⟩⟩
theorem g28 : TI.ok Try.prog 28 (.sc .nilFunc) := ⟨fun _ => by kernel_rfl, fun _ => by kernel_rfl, fun _ => by kernel_rfl⟩
theorem g29 : TI.ok Try.prog 29 (.sc .nilFunc) := ⟨fun _ => by kernel_rfl, fun _ => by kernel_rfl, fun _ => by kernel_rfl⟩
theorem g30 : TI.ok Try.prog 30 (.sc .nilFunc) := ⟨fun _ => by kernel_rfl, fun _ => by kernel_rfl, fun _ => by kernel_rfl⟩
theorem g31 : TI.ok Try.prog 31 (.sc .nilFunc) := ⟨fun _ => by kernel_rfl, fun _ => by kernel_rfl, fun _ => by kernel_rfl⟩
theorem g32 : TI.ok Try.prog 32 (.sc (.int .i64 0)) := ⟨fun _ => by kernel_rfl, fun _ => by kernel_rfl, fun _ => by kernel_rfl⟩
theorem g33 : TI.ok Try.prog 33 (.st 13 [(0, 3), (1, 3), (2, 3), (3, 3), (4, 32), (5, 9), (6, 4), (7, 4), (8, 9), (9, 9), (10, 3), (11, 3), (12, 4)] (Array.mk [(.int .i64 0), (.int .i64 0), (.int .i64 0), (.int .i64 0), (.int .i64 0), (.string ByteArray.empty), (.bool false), (.bool false), (.string ByteArray.empty), (.string ByteArray.empty), (.int .i64 0), (.int .i64 0), (.bool false)]) [1, 1, 1, 1, 1, 1, 1, 1, 1, 1, 1, 1, 1]) := ⟨fun _ => by kernel_rfl, fun _ => by kernel_rfl, fun _ => by kernel_rfl, (fun f off ft h => match f, h with | 0, h => by cases h; exact ⟨fun _ _ => by kernel_rfl, fun _ _ => by kernel_rfl⟩ | 1, h => by cases h; exact ⟨fun _ _ => by kernel_rfl, fun _ _ => by kernel_rfl⟩ | 2, h => by cases h; exact ⟨fun _ _ => by kernel_rfl, fun _ _ => by kernel_rfl⟩ | 3, h => by cases h; exact ⟨fun _ _ => by kernel_rfl, fun _ _ => by kernel_rfl⟩ | 4, h => by cases h; exact ⟨fun _ _ => by kernel_rfl, fun _ _ => by kernel_rfl⟩ | 5, h => by cases h; exact ⟨fun _ _ => by kernel_rfl, fun _ _ => by kernel_rfl⟩ | 6, h => by cases h; exact ⟨fun _ _ => by kernel_rfl, fun _ _ => by kernel_rfl⟩ | 7, h => by cases h; exact ⟨fun _ _ => by kernel_rfl, fun _ _ => by kernel_rfl⟩ | 8, h => by cases h; exact ⟨fun _ _ => by kernel_rfl, fun _ _ => by kernel_rfl⟩ | 9, h => by cases h; exact ⟨fun _ _ => by kernel_rfl, fun _ _ => by kernel_rfl⟩ | 10, h => by cases h; exact ⟨fun _ _ => by kernel_rfl, fun _ _ => by kernel_rfl⟩ | 11, h => by cases h; exact ⟨fun _ _ => by kernel_rfl, fun _ _ => by kernel_rfl⟩ | 12, h => by cases h; exact ⟨fun _ _ => by kernel_rfl, fun _ _ => by kernel_rfl⟩ | (_ + 13), h => by simp at h),
    TBuild.mk (places := #[(0, 1), (1, 1), (2, 1), (3, 1), (4, 1), (5, 1), (6, 1), (7, 1), (8, 1), (9, 1), (10, 1), (11, 1), (12, 1)]) Try.underlying33 (fun _ => by kernel_rfl) (fun _ => by kernel_rfl) (fun i => match i with | 0 => rfl | 1 => rfl | 2 => rfl | 3 => rfl | 4 => rfl | 5 => rfl | 6 => rfl | 7 => rfl | 8 => rfl | 9 => rfl | 10 => rfl | 11 => rfl | 12 => rfl | (_ + 13) => by simp)⟩
theorem g34 : TI.ok Try.prog 34 (.st 13 [(0, 3), (1, 3), (2, 3), (3, 3), (4, 32), (5, 9), (6, 4), (7, 4), (8, 9), (9, 9), (10, 3), (11, 3), (12, 4)] (Array.mk [(.int .i64 0), (.int .i64 0), (.int .i64 0), (.int .i64 0), (.int .i64 0), (.string ByteArray.empty), (.bool false), (.bool false), (.string ByteArray.empty), (.string ByteArray.empty), (.int .i64 0), (.int .i64 0), (.bool false)]) [1, 1, 1, 1, 1, 1, 1, 1, 1, 1, 1, 1, 1]) := ⟨fun _ => by kernel_rfl, fun _ => by kernel_rfl, fun _ => by kernel_rfl, (fun f off ft h => match f, h with | 0, h => by cases h; exact ⟨fun _ _ => by kernel_rfl, fun _ _ => by kernel_rfl⟩ | 1, h => by cases h; exact ⟨fun _ _ => by kernel_rfl, fun _ _ => by kernel_rfl⟩ | 2, h => by cases h; exact ⟨fun _ _ => by kernel_rfl, fun _ _ => by kernel_rfl⟩ | 3, h => by cases h; exact ⟨fun _ _ => by kernel_rfl, fun _ _ => by kernel_rfl⟩ | 4, h => by cases h; exact ⟨fun _ _ => by kernel_rfl, fun _ _ => by kernel_rfl⟩ | 5, h => by cases h; exact ⟨fun _ _ => by kernel_rfl, fun _ _ => by kernel_rfl⟩ | 6, h => by cases h; exact ⟨fun _ _ => by kernel_rfl, fun _ _ => by kernel_rfl⟩ | 7, h => by cases h; exact ⟨fun _ _ => by kernel_rfl, fun _ _ => by kernel_rfl⟩ | 8, h => by cases h; exact ⟨fun _ _ => by kernel_rfl, fun _ _ => by kernel_rfl⟩ | 9, h => by cases h; exact ⟨fun _ _ => by kernel_rfl, fun _ _ => by kernel_rfl⟩ | 10, h => by cases h; exact ⟨fun _ _ => by kernel_rfl, fun _ _ => by kernel_rfl⟩ | 11, h => by cases h; exact ⟨fun _ _ => by kernel_rfl, fun _ _ => by kernel_rfl⟩ | 12, h => by cases h; exact ⟨fun _ _ => by kernel_rfl, fun _ _ => by kernel_rfl⟩ | (_ + 13), h => by simp at h),
    TBuild.mk (places := #[(0, 1), (1, 1), (2, 1), (3, 1), (4, 1), (5, 1), (6, 1), (7, 1), (8, 1), (9, 1), (10, 1), (11, 1), (12, 1)]) Try.underlying34 (fun _ => by kernel_rfl) (fun _ => by kernel_rfl) (fun i => match i with | 0 => rfl | 1 => rfl | 2 => rfl | 3 => rfl | 4 => rfl | 5 => rfl | 6 => rfl | 7 => rfl | 8 => rfl | 9 => rfl | 10 => rfl | 11 => rfl | 12 => rfl | (_ + 13) => by simp)⟩
theorem g35 : TI.ok Try.prog 35 (.sc .nilFunc) := ⟨fun _ => by kernel_rfl, fun _ => by kernel_rfl, fun _ => by kernel_rfl⟩
theorem g36 : TI.ok Try.prog 36 (.sc .nilFunc) := ⟨fun _ => by kernel_rfl, fun _ => by kernel_rfl, fun _ => by kernel_rfl⟩
theorem g37 : TI.ok Try.prog 37 (.sc .nilFunc) := ⟨fun _ => by kernel_rfl, fun _ => by kernel_rfl, fun _ => by kernel_rfl⟩
theorem g38 : TI.ok Try.prog 38 (.sc (.pointer none)) := ⟨fun _ => by kernel_rfl, fun _ => by kernel_rfl, fun _ => by kernel_rfl⟩
theorem g39 : TI.ok Try.prog 39 (.sc (.map none)) := ⟨fun _ => by kernel_rfl, fun _ => by kernel_rfl, fun _ => by kernel_rfl⟩
theorem g40 : TI.ok Try.prog 40 (.sl 55 3 24) := ⟨fun _ => by kernel_rfl, fun _ => by kernel_rfl, fun _ => by kernel_rfl, fun _ => by kernel_rfl, (Try.prog.info? 55).getD default, (.agg #[(.int .i64 0), (.int .i64 0), (.int .i64 0)]), ⟨by kernel_rfl, by kernel_rfl, by kernel_rfl, by kernel_rfl, by kernel_rfl, by kernel_rfl⟩⟩
theorem g41 : TI.ok Try.prog 41 (.st 1 [(0, 40)] (Array.mk [(.slice none 0 0)]) [1]) := ⟨fun _ => by kernel_rfl, fun _ => by kernel_rfl, fun _ => by kernel_rfl, (fun f off ft h => match f, h with | 0, h => by cases h; exact ⟨fun _ _ => by kernel_rfl, fun _ _ => by kernel_rfl⟩ | (_ + 1), h => by simp at h),
    TBuild.mk (places := #[(0, 1)]) Try.underlying41 (fun _ => by kernel_rfl) (fun _ => by kernel_rfl) (fun i => match i with | 0 => rfl | (_ + 1) => by simp)⟩
theorem g42 : TI.ok Try.prog 42 (.st 1 [(0, 40)] (Array.mk [(.slice none 0 0)]) [1]) := ⟨fun _ => by kernel_rfl, fun _ => by kernel_rfl, fun _ => by kernel_rfl, (fun f off ft h => match f, h with | 0, h => by cases h; exact ⟨fun _ _ => by kernel_rfl, fun _ _ => by kernel_rfl⟩ | (_ + 1), h => by simp at h),
    TBuild.mk (places := #[(0, 1)]) Try.underlying42 (fun _ => by kernel_rfl) (fun _ => by kernel_rfl) (fun i => match i with | 0 => rfl | (_ + 1) => by simp)⟩
theorem g43 : TI.ok Try.prog 43 (.st 4 [(0, 42), (1, 39), (2, 39), (3, 4)] (Array.mk [(.slice none 0 0), (.map none), (.map none), (.bool false)]) [1, 1, 1, 1]) := ⟨fun _ => by kernel_rfl, fun _ => by kernel_rfl, fun _ => by kernel_rfl, (fun f off ft h => match f, h with | 0, h => by cases h; exact ⟨fun _ _ => by kernel_rfl, fun _ _ => by kernel_rfl⟩ | 1, h => by cases h; exact ⟨fun _ _ => by kernel_rfl, fun _ _ => by kernel_rfl⟩ | 2, h => by cases h; exact ⟨fun _ _ => by kernel_rfl, fun _ _ => by kernel_rfl⟩ | 3, h => by cases h; exact ⟨fun _ _ => by kernel_rfl, fun _ _ => by kernel_rfl⟩ | (_ + 4), h => by simp at h),
    TBuild.mk (places := #[(0, 1), (1, 1), (2, 1), (3, 1)]) Try.underlying43 (fun _ => by kernel_rfl) (fun _ => by kernel_rfl) (fun i => match i with | 0 => rfl | 1 => rfl | 2 => rfl | 3 => rfl | (_ + 4) => by simp)⟩
theorem g44 : TI.ok Try.prog 44 (.st 4 [(0, 42), (1, 39), (2, 39), (3, 4)] (Array.mk [(.slice none 0 0), (.map none), (.map none), (.bool false)]) [1, 1, 1, 1]) := ⟨fun _ => by kernel_rfl, fun _ => by kernel_rfl, fun _ => by kernel_rfl, (fun f off ft h => match f, h with | 0, h => by cases h; exact ⟨fun _ _ => by kernel_rfl, fun _ _ => by kernel_rfl⟩ | 1, h => by cases h; exact ⟨fun _ _ => by kernel_rfl, fun _ _ => by kernel_rfl⟩ | 2, h => by cases h; exact ⟨fun _ _ => by kernel_rfl, fun _ _ => by kernel_rfl⟩ | 3, h => by cases h; exact ⟨fun _ _ => by kernel_rfl, fun _ _ => by kernel_rfl⟩ | (_ + 4), h => by simp at h),
    TBuild.mk (places := #[(0, 1), (1, 1), (2, 1), (3, 1)]) Try.underlying44 (fun _ => by kernel_rfl) (fun _ => by kernel_rfl) (fun i => match i with | 0 => rfl | 1 => rfl | 2 => rfl | 3 => rfl | (_ + 4) => by simp)⟩
theorem g45 : TI.ok Try.prog 45 (.sc .nilFunc) := ⟨fun _ => by kernel_rfl, fun _ => by kernel_rfl, fun _ => by kernel_rfl⟩
theorem g46 : TI.ok Try.prog 46 (.sc .nilFunc) := ⟨fun _ => by kernel_rfl, fun _ => by kernel_rfl, fun _ => by kernel_rfl⟩
theorem g47 : TI.ok Try.prog 47 (.sc .nilFunc) := ⟨fun _ => by kernel_rfl, fun _ => by kernel_rfl, fun _ => by kernel_rfl⟩
theorem g48 : TI.ok Try.prog 48 (.sc .nilFunc) := ⟨fun _ => by kernel_rfl, fun _ => by kernel_rfl, fun _ => by kernel_rfl⟩
theorem g49 : TI.ok Try.prog 49 (.sc .nilFunc) := ⟨fun _ => by kernel_rfl, fun _ => by kernel_rfl, fun _ => by kernel_rfl⟩
theorem g50 : TI.ok Try.prog 50 (.sc (.pointer none)) := ⟨fun _ => by kernel_rfl, fun _ => by kernel_rfl, fun _ => by kernel_rfl⟩
theorem g51 : TI.ok Try.prog 51 (.sc .nilFunc) := ⟨fun _ => by kernel_rfl, fun _ => by kernel_rfl, fun _ => by kernel_rfl⟩
theorem g52 : TI.ok Try.prog 52 (.sc .nilFunc) := ⟨fun _ => by kernel_rfl, fun _ => by kernel_rfl, fun _ => by kernel_rfl⟩
theorem g53 : TI.ok Try.prog 53 (.sc .nilFunc) := ⟨fun _ => by kernel_rfl, fun _ => by kernel_rfl, fun _ => by kernel_rfl⟩
theorem g54 : TI.ok Try.prog 54 (.st 3 [(0, 3), (1, 3), (2, 3)] (Array.mk [(.int .i64 0), (.int .i64 0), (.int .i64 0)]) [1, 1, 1]) := ⟨fun _ => by kernel_rfl, fun _ => by kernel_rfl, fun _ => by kernel_rfl, (fun f off ft h => match f, h with | 0, h => by cases h; exact ⟨fun _ _ => by kernel_rfl, fun _ _ => by kernel_rfl⟩ | 1, h => by cases h; exact ⟨fun _ _ => by kernel_rfl, fun _ _ => by kernel_rfl⟩ | 2, h => by cases h; exact ⟨fun _ _ => by kernel_rfl, fun _ _ => by kernel_rfl⟩ | (_ + 3), h => by simp at h),
    TBuild.mk (places := #[(0, 1), (1, 1), (2, 1)]) Try.underlying54 (fun _ => by kernel_rfl) (fun _ => by kernel_rfl) (fun i => match i with | 0 => rfl | 1 => rfl | 2 => rfl | (_ + 3) => by simp)⟩
theorem g55 : TI.ok Try.prog 55 (.st 3 [(0, 3), (1, 3), (2, 3)] (Array.mk [(.int .i64 0), (.int .i64 0), (.int .i64 0)]) [1, 1, 1]) := ⟨fun _ => by kernel_rfl, fun _ => by kernel_rfl, fun _ => by kernel_rfl, (fun f off ft h => match f, h with | 0, h => by cases h; exact ⟨fun _ _ => by kernel_rfl, fun _ _ => by kernel_rfl⟩ | 1, h => by cases h; exact ⟨fun _ _ => by kernel_rfl, fun _ _ => by kernel_rfl⟩ | 2, h => by cases h; exact ⟨fun _ _ => by kernel_rfl, fun _ _ => by kernel_rfl⟩ | (_ + 3), h => by simp at h),
    TBuild.mk (places := #[(0, 1), (1, 1), (2, 1)]) Try.underlying55 (fun _ => by kernel_rfl) (fun _ => by kernel_rfl) (fun i => match i with | 0 => rfl | 1 => rfl | 2 => rfl | (_ + 3) => by simp)⟩
theorem g57 : TI.ok Try.prog 57 (.sc .nilFunc) := ⟨fun _ => by kernel_rfl, fun _ => by kernel_rfl, fun _ => by kernel_rfl⟩
theorem g58 : TI.ok Try.prog 58 (.sc .nilFunc) := ⟨fun _ => by kernel_rfl, fun _ => by kernel_rfl, fun _ => by kernel_rfl⟩
theorem g60 : TI.ok Try.prog 60 (.sc (.pointer none)) := ⟨fun _ => by kernel_rfl, fun _ => by kernel_rfl, fun _ => by kernel_rfl⟩
theorem g61 : TI.ok Try.prog 61 (.sc .nilFunc) := ⟨fun _ => by kernel_rfl, fun _ => by kernel_rfl, fun _ => by kernel_rfl⟩
theorem g67 : TI.ok Try.prog 67 (.sc .nilFunc) := ⟨fun _ => by kernel_rfl, fun _ => by kernel_rfl, fun _ => by kernel_rfl⟩
theorem g68 : TI.ok Try.prog 68 (.sc (.int .u32 0)) := ⟨fun _ => by kernel_rfl, fun _ => by kernel_rfl, fun _ => by kernel_rfl⟩
theorem g71 : TI.ok Try.prog 71 (.sc .nilFunc) := ⟨fun _ => by kernel_rfl, fun _ => by kernel_rfl, fun _ => by kernel_rfl⟩
theorem g72 : TI.ok Try.prog 72 (.sc (.pointer none)) := ⟨fun _ => by kernel_rfl, fun _ => by kernel_rfl, fun _ => by kernel_rfl⟩
theorem g75 : TI.ok Try.prog 75 (.st 11 [(0, 12), (1, 12), (2, 68), (3, 69), (4, 5), (5, 5), (6, 70), (7, 71), (8, 72), (9, 73), (10, 74)] (Array.mk [(.int .u64 0), (.int .u64 0), (.int .u32 0), (.int .u8 0), (.int .u8 0), (.int .u8 0), (.int .u8 0), .nilFunc, (.pointer none), (.int .i32 0), (.int .i32 0)]) [1, 1, 1, 1, 1, 1, 1, 1, 1, 1, 1]) := ⟨fun _ => by kernel_rfl, fun _ => by kernel_rfl, fun _ => by kernel_rfl, (fun f off ft h => match f, h with | 0, h => by cases h; exact ⟨fun _ _ => by kernel_rfl, fun _ _ => by kernel_rfl⟩ | 1, h => by cases h; exact ⟨fun _ _ => by kernel_rfl, fun _ _ => by kernel_rfl⟩ | 2, h => by cases h; exact ⟨fun _ _ => by kernel_rfl, fun _ _ => by kernel_rfl⟩ | 3, h => by cases h; exact ⟨fun _ _ => by kernel_rfl, fun _ _ => by kernel_rfl⟩ | 4, h => by cases h; exact ⟨fun _ _ => by kernel_rfl, fun _ _ => by kernel_rfl⟩ | 5, h => by cases h; exact ⟨fun _ _ => by kernel_rfl, fun _ _ => by kernel_rfl⟩ | 6, h => by cases h; exact ⟨fun _ _ => by kernel_rfl, fun _ _ => by kernel_rfl⟩ | 7, h => by cases h; exact ⟨fun _ _ => by kernel_rfl, fun _ _ => by kernel_rfl⟩ | 8, h => by cases h; exact ⟨fun _ _ => by kernel_rfl, fun _ _ => by kernel_rfl⟩ | 9, h => by cases h; exact ⟨fun _ _ => by kernel_rfl, fun _ _ => by kernel_rfl⟩ | 10, h => by cases h; exact ⟨fun _ _ => by kernel_rfl, fun _ _ => by kernel_rfl⟩ | (_ + 11), h => by simp at h),
    TBuild.mk (places := #[(0, 1), (1, 1), (2, 1), (3, 1), (4, 1), (5, 1), (6, 1), (7, 1), (8, 1), (9, 1), (10, 1)]) Try.underlying75 (fun _ => by kernel_rfl) (fun _ => by kernel_rfl) (fun i => match i with | 0 => rfl | 1 => rfl | 2 => rfl | 3 => rfl | 4 => rfl | 5 => rfl | 6 => rfl | 7 => rfl | 8 => rfl | 9 => rfl | 10 => rfl | (_ + 11) => by simp)⟩
@[reducible] def G : TEnv := [(1, .sc .nilFunc), (2, .sc (.int .i64 0)), (3, .sc (.int .i64 0)), (4, .bl), (5, .sc (.int .u8 0)), (9, .str), (12, .sc (.int .u64 0)), (15, .sc (.pointer none)), (16, .sc (.pointer none)), (17, .sc (.pointer none)), (20, .sc .nilIface), (21, .sc (.int .i32 0)), (22, .sl 34 13 120), (23, .sc .nilFunc), (24, .sc .nilFunc), (25, .sc .nilFunc), (26, .sc .nilFunc), (27, .sl 3 1 8), (28, .sc .nilFunc), (29, .sc .nilFunc), (30, .sc .nilFunc), (31, .sc .nilFunc), (32, .sc (.int .i64 0)), (33, .st 13 [(0, 3), (1, 3), (2, 3), (3, 3), (4, 32), (5, 9), (6, 4), (7, 4), (8, 9), (9, 9), (10, 3), (11, 3), (12, 4)] (Array.mk [(.int .i64 0), (.int .i64 0), (.int .i64 0), (.int .i64 0), (.int .i64 0), (.string ByteArray.empty), (.bool false), (.bool false), (.string ByteArray.empty), (.string ByteArray.empty), (.int .i64 0), (.int .i64 0), (.bool false)]) [1, 1, 1, 1, 1, 1, 1, 1, 1, 1, 1, 1, 1]), (34, .st 13 [(0, 3), (1, 3), (2, 3), (3, 3), (4, 32), (5, 9), (6, 4), (7, 4), (8, 9), (9, 9), (10, 3), (11, 3), (12, 4)] (Array.mk [(.int .i64 0), (.int .i64 0), (.int .i64 0), (.int .i64 0), (.int .i64 0), (.string ByteArray.empty), (.bool false), (.bool false), (.string ByteArray.empty), (.string ByteArray.empty), (.int .i64 0), (.int .i64 0), (.bool false)]) [1, 1, 1, 1, 1, 1, 1, 1, 1, 1, 1, 1, 1]), (35, .sc .nilFunc), (36, .sc .nilFunc), (37, .sc .nilFunc), (38, .sc (.pointer none)), (39, .sc (.map none)), (40, .sl 55 3 24), (41, .st 1 [(0, 40)] (Array.mk [(.slice none 0 0)]) [1]), (42, .st 1 [(0, 40)] (Array.mk [(.slice none 0 0)]) [1]), (43, .st 4 [(0, 42), (1, 39), (2, 39), (3, 4)] (Array.mk [(.slice none 0 0), (.map none), (.map none), (.bool false)]) [1, 1, 1, 1]), (44, .st 4 [(0, 42), (1, 39), (2, 39), (3, 4)] (Array.mk [(.slice none 0 0), (.map none), (.map none), (.bool false)]) [1, 1, 1, 1]), (45, .sc .nilFunc), (46, .sc .nilFunc), (47, .sc .nilFunc), (48, .sc .nilFunc), (49, .sc .nilFunc), (50, .sc (.pointer none)), (51, .sc .nilFunc), (52, .sc .nilFunc), (53, .sc .nilFunc), (54, .st 3 [(0, 3), (1, 3), (2, 3)] (Array.mk [(.int .i64 0), (.int .i64 0), (.int .i64 0)]) [1, 1, 1]), (55, .st 3 [(0, 3), (1, 3), (2, 3)] (Array.mk [(.int .i64 0), (.int .i64 0), (.int .i64 0)]) [1, 1, 1]), (57, .sc .nilFunc), (58, .sc .nilFunc), (60, .sc (.pointer none)), (61, .sc .nilFunc), (67, .sc .nilFunc), (68, .sc (.int .u32 0)), (71, .sc .nilFunc), (72, .sc (.pointer none)), (75, .st 11 [(0, 12), (1, 12), (2, 68), (3, 69), (4, 5), (5, 5), (6, 70), (7, 71), (8, 72), (9, 73), (10, 74)] (Array.mk [(.int .u64 0), (.int .u64 0), (.int .u32 0), (.int .u8 0), (.int .u8 0), (.int .u8 0), (.int .u8 0), .nilFunc, (.pointer none), (.int .i32 0), (.int .i32 0)]) [1, 1, 1, 1, 1, 1, 1, 1, 1, 1, 1])]
theorem G_good : G.Good Try.prog := List.forall_mem_cons.2 ⟨g1, List.forall_mem_cons.2 ⟨g2, List.forall_mem_cons.2 ⟨g3, List.forall_mem_cons.2 ⟨g4, List.forall_mem_cons.2 ⟨g5, List.forall_mem_cons.2 ⟨g9, List.forall_mem_cons.2 ⟨g12, List.forall_mem_cons.2 ⟨g15, List.forall_mem_cons.2 ⟨g16, List.forall_mem_cons.2 ⟨g17, List.forall_mem_cons.2 ⟨g20, List.forall_mem_cons.2 ⟨g21, List.forall_mem_cons.2 ⟨g22, List.forall_mem_cons.2 ⟨g23, List.forall_mem_cons.2 ⟨g24, List.forall_mem_cons.2 ⟨g25, List.forall_mem_cons.2 ⟨g26, List.forall_mem_cons.2 ⟨g27, List.forall_mem_cons.2 ⟨g28, List.forall_mem_cons.2 ⟨g29, List.forall_mem_cons.2 ⟨g30, List.forall_mem_cons.2 ⟨g31, List.forall_mem_cons.2 ⟨g32, List.forall_mem_cons.2 ⟨g33, List.forall_mem_cons.2 ⟨g34, List.forall_mem_cons.2 ⟨g35, List.forall_mem_cons.2 ⟨g36, List.forall_mem_cons.2 ⟨g37, List.forall_mem_cons.2 ⟨g38, List.forall_mem_cons.2 ⟨g39, List.forall_mem_cons.2 ⟨g40, List.forall_mem_cons.2 ⟨g41, List.forall_mem_cons.2 ⟨g42, List.forall_mem_cons.2 ⟨g43, List.forall_mem_cons.2 ⟨g44, List.forall_mem_cons.2 ⟨g45, List.forall_mem_cons.2 ⟨g46, List.forall_mem_cons.2 ⟨g47, List.forall_mem_cons.2 ⟨g48, List.forall_mem_cons.2 ⟨g49, List.forall_mem_cons.2 ⟨g50, List.forall_mem_cons.2 ⟨g51, List.forall_mem_cons.2 ⟨g52, List.forall_mem_cons.2 ⟨g53, List.forall_mem_cons.2 ⟨g54, List.forall_mem_cons.2 ⟨g55, List.forall_mem_cons.2 ⟨g57, List.forall_mem_cons.2 ⟨g58, List.forall_mem_cons.2 ⟨g60, List.forall_mem_cons.2 ⟨g61, List.forall_mem_cons.2 ⟨g67, List.forall_mem_cons.2 ⟨g68, List.forall_mem_cons.2 ⟨g71, List.forall_mem_cons.2 ⟨g72, List.forall_mem_cons.2 ⟨g75, (fun _ h => by simp at h)⟩⟩⟩⟩⟩⟩⟩⟩⟩⟩⟩⟩⟩⟩⟩⟩⟩⟩⟩⟩⟩⟩⟩⟩⟩⟩⟩⟩⟩⟩⟩⟩⟩⟩⟩⟩⟩⟩⟩⟩⟩⟩⟩⟩⟩⟩⟩⟩⟩⟩⟩⟩⟩⟩⟩
theorem c3 : Callable Try.prog 3 := fun _ _ => by kernel_rfl
theorem c4 : Callable Try.prog 4 := fun _ _ => by kernel_rfl
theorem c5 : Callable Try.prog 5 := fun _ _ => by kernel_rfl
theorem c6 : Callable Try.prog 6 := fun _ _ => by kernel_rfl
theorem c7 : Callable Try.prog 7 := fun _ _ => by kernel_rfl
theorem c8 : Callable Try.prog 8 := fun _ _ => by kernel_rfl
theorem c9 : Callable Try.prog 9 := fun _ _ => by kernel_rfl
theorem c10 : Callable Try.prog 10 := fun _ _ => by kernel_rfl
theorem c11 : Callable Try.prog 11 := fun _ _ => by kernel_rfl
theorem c12 : Callable Try.prog 12 := fun _ _ => by kernel_rfl
theorem c13 : Callable Try.prog 13 := fun _ _ => by kernel_rfl
theorem c14 : Callable Try.prog 14 := fun _ _ => by kernel_rfl
theorem c15 : Callable Try.prog 15 := fun _ _ => by kernel_rfl
theorem c16 : Callable Try.prog 16 := fun _ _ => by kernel_rfl
theorem c17 : Callable Try.prog 17 := fun _ _ => by kernel_rfl
theorem c18 : Callable Try.prog 18 := fun _ _ => by kernel_rfl
theorem c19 : Callable Try.prog 19 := fun _ _ => by kernel_rfl
theorem c21 : Callable Try.prog 21 := fun _ _ => by kernel_rfl
theorem c22 : Callable Try.prog 22 := fun _ _ => by kernel_rfl
theorem c23 : Callable Try.prog 23 := fun _ _ => by kernel_rfl
theorem c24 : Callable Try.prog 24 := fun _ _ => by kernel_rfl
theorem c25 : Callable Try.prog 25 := fun _ _ => by kernel_rfl
theorem c27 : Callable Try.prog 27 := fun _ _ => by kernel_rfl
theorem c28 : Callable Try.prog 28 := fun _ _ => by kernel_rfl
theorem c32 : Callable Try.prog 32 := fun _ _ => by kernel_rfl
theorem c20 : Callable Try.prog 20 := fun _ _ => by kernel_rfl
theorem c26 : Callable Try.prog 26 := fun _ _ => by kernel_rfl
theorem c29 : Callable Try.prog 29 := fun _ _ => by kernel_rfl
theorem c30 : Callable Try.prog 30 := fun _ _ => by kernel_rfl
theorem c31 : Callable Try.prog 31 := fun _ _ => by kernel_rfl
theorem c33 : Callable Try.prog 33 := fun _ _ => by kernel_rfl
theorem c34 : Callable Try.prog 34 := fun _ _ => by kernel_rfl
theorem c35 : Callable Try.prog 35 := fun _ _ => by kernel_rfl
end Go.Proofs.Audit
end
section
set_option linter.unusedSimpArgs false
set_option linter.unusedVariables false
namespace Go.Proofs.Audit
open Go.Am Go.RowKit Go.Lib
structure MkM where
  kind : Int
  depth : Int
  node : Int
  what : Int
  err : Int
  name : ByteArray
  had : Bool
  has : Bool
  old : ByteArray
  new : ByteArray
  fr : Int
  to : Int
  on : Bool
/-- What is open. -/
structure OpM where
  kind : Int
  depth : Int
  what : Int
  deriving DecidableEq
abbrev TabI := List (Int × Int)
structure BookM where
  stk : List OpM
  became : TabI
  kept : TabI
  over : Bool
def opensK (k : Int) : Bool := decide (k = 3) || decide (k = 9) || decide (k = 6)
def deepM (x : MkM) : Bool := if opensK x.kind then decide (0 < x.depth) else if x.kind = 8 ∨ x.kind = 10 then decide (x.depth = 0) else decide (0 ≤ x.depth)
def leastM (x : MkM) : Int := if opensK x.kind then x.depth - 1 else x.depth
/-- A pile's top stays: the mark that made it doesn't end by itself. -/
def staysM (least : Int) (t : OpM) : Bool := decide (t.kind = 3) || decide (t.depth ≤ least)
/-- A pile, top last. -/
def shutM (least : Int) : List OpM → List OpM := fun l => (l.reverse.dropWhile (fun t => !staysM least t)).reverse
def topM (l : List OpM) : OpM := l.getLast?.getD ⟨0, 0, 0⟩
def standsM (s : List OpM) (x : MkM) : List OpM × Bool :=
  if opensK x.kind then (s ++ [⟨x.kind, x.depth, x.what⟩], decide ((topM s).depth = x.depth - 1))
  else if x.kind = 1 ∨ x.kind = 2 ∨ x.kind = 7 then (s, decide ((topM s).depth = x.depth))
  else if x.kind = 5 then (s, decide ((topM s).depth = x.depth) || decide ((topM s).depth = x.depth - 1))
  else if x.kind = 8 then (s, decide (s = []))
  else if x.kind = 4 then (if s = [] ∨ topM s ≠ ⟨3, x.depth, x.what⟩ then (s, false) else (s.dropLast, true))
  else (s, true)
def livesM (bc kp : TabI) (x : MkM) : TabI × TabI × Bool :=
  if x.kind = 5 then (tput x.node x.what bc, kp, (tget x.node bc).isNone && (decide (x.what = 3) || decide (x.what = 4)))
  else if x.kind = 6 then (bc, kp, decide (tget x.node bc = some 3))
  else if x.kind = 8 then (bc, tput x.node ((tget x.node kp).getD 0 + 1) kp, decide ((tget x.node kp).getD 0 + 1 = 1))
  else if x.kind = 4 then (bc, kp, decide (x.node = -1) == !decide (x.err = 0))
  else (bc, kp, true)
def readM (b : BookM) (x : MkM) : BookM × Bool :=
  if b.over = true ∨ x.kind < 1 ∨ 10 < x.kind ∨ deepM x = false then (b, false)
  else
    let s := shutM (leastM x) b.stk
    let r := standsM s x
    if r.2 = false then (⟨r.1, b.became, b.kept, decide (x.kind = 10)⟩, false)
    else
      let v := livesM b.became b.kept x
      (⟨r.1, v.1, v.2.1, decide (x.kind = 10)⟩, v.2.2)
/-- Place of the first mark that may not stand. -/
def checkM : BookM → Nat → List MkM → Int
  | _, _, [] => -1
  | b, i, x :: r => if (readM b x).2 = true then checkM (readM b x).1 (i + 1) r else i
def book0 : BookM := ⟨[], [], [], false⟩
def isCall (n kind : Int) (x : MkM) : Bool := decide (x.kind = 6) && decide (x.node = n) && decide (x.what = kind)
def callsM (l : List MkM) (n kind : Int) : Nat := l.countP (isCall n kind)
def isBegun (x : MkM) : Bool := decide (x.kind = 3) && !decide (x.node = -1)
def begunM (l : List MkM) : List Int := (l.filter isBegun).map MkM.node
def isBecame (n : Int) (x : MkM) : Bool := decide (x.kind = 5) && decide (x.node = n)
def becameM (l : List MkM) (n : Int) : Int := ((l.find? (isBecame n)).map MkM.what).getD 0
def isChange (n : Int) (s : ByteArray) (x : MkM) : Bool := decide (x.kind = 6) && decide (x.node = n) && decide (x.what = 4) && decide (x.name = s)
def breaksM (y x : MkM) : Bool := !(x.had == y.has) || !decide (x.old = y.new)
/-- The place at which an attribute's values don't go on. -/
def chainM (n : Int) (s : ByteArray) : Option MkM → Nat → List MkM → Int
  | _, _, [] => -1
  | last, i, x :: r =>
    if isChange n s x then
      if (last.map (fun y => breaksM y x)).getD false then i else chainM n s (some x) (i + 1) r
    else chainM n s last (i + 1) r
end Go.Proofs.Audit
end
section
set_option linter.unusedSimpArgs false
set_option linter.unusedVariables false
namespace Go.Proofs.Audit
open Go.Am Go.RowKit Go.Lib
/-! ### piles -/
theorem shut_nil (d : Int) : shutM d [] = [] := rfl
theorem shut_snoc (d : Int) (s : List OpM) (t : OpM) : shutM d (s ++ [t]) = if staysM d t = true then s ++ [t] else shutM d s := by
  unfold shutM
  rw [List.reverse_append]
  simp only [List.reverse_cons, List.reverse_nil, List.nil_append, List.cons_append, List.dropWhile_cons]
  cases h : staysM d t <;> simp
theorem snoc_of_ne {α : Type} {s : List α} (h : s ≠ []) : ∃ r t, s = r ++ [t] := ⟨s.dropLast, s.getLast h, (List.dropLast_concat_getLast h).symm⟩
theorem shut_take (d : Int) (s : List OpM) : shutM d s = s.take (shutM d s).length := by
  unfold shutM
  have : (s.reverse.dropWhile (fun t => !staysM d t)) <:+ s.reverse := List.dropWhile_suffix _
  obtain ⟨p, hp⟩ := this
  have h2 : s = (s.reverse.dropWhile (fun t => !staysM d t)).reverse ++ p.reverse := by
    rw [← List.reverse_append, hp, List.reverse_reverse]
  conv => rhs; arg 2; rw [h2]
  rw [List.take_left]
theorem shut_mem {d : Int} {s : List OpM} {t : OpM} (h : t ∈ shutM d s) : t ∈ s := by rw [shut_take] at h; exact List.mem_of_mem_take h
theorem shut_began (d : Int) : ∀ s : List OpM, (shutM d s).countP (fun t => decide (t.kind = 3)) = s.countP (fun t => decide (t.kind = 3)) := by
  intro s
  induction h : s.length generalizing s with
  | zero => cases s with | nil => rfl | cons _ _ => simp at h
  | succ n ih =>
    obtain ⟨r, t, rfl⟩ := snoc_of_ne (s := s) (by intro e; rw [e] at h; simp at h)
    rw [shut_snoc]
    split
    · rfl
    · rename_i hs
      rw [ih r (by simp at h; exact h), List.countP_append]
      have : t.kind ≠ 3 := by
        intro e; apply hs; unfold staysM; simp [e]
      simp [List.countP_cons, this]
theorem top_snoc (s : List OpM) (t : OpM) : topM (s ++ [t]) = t := by simp [topM]
theorem top_nil : topM [] = ⟨0, 0, 0⟩ := rfl
/-! ### what the document's answer asks -/
def opOf (x : MkM) : OpM := ⟨x.kind, x.depth, x.what⟩
def placeR (s : List OpM) (x : MkM) : Bool :=
  if x.kind = 3 ∨ x.kind = 6 ∨ x.kind = 9 then decide (1 ≤ x.depth) && decide ((topM s).depth = x.depth - 1)
  else if x.kind = 1 ∨ x.kind = 2 ∨ x.kind = 7 then decide (0 ≤ x.depth) && decide ((topM s).depth = x.depth)
  else if x.kind = 5 then decide (0 ≤ x.depth) && (decide ((topM s).depth = x.depth) || decide (1 ≤ x.depth) && decide ((topM s).depth = x.depth - 1))
  else if x.kind = 8 then decide (x.depth = 0) && decide ((topM s).kind = 0)
  else if x.kind = 4 then decide (0 ≤ x.depth) && decide ((topM s).kind = 3) && decide ((topM s).depth = x.depth) && decide ((topM s).what = x.what)
  else decide (x.kind = 10) && decide (x.depth = 0)
def isOf (k n : Int) (x : MkM) : Bool := decide (x.kind = k) && decide (x.node = n)
def isCustom (n : Int) (x : MkM) : Bool := isOf 5 n x && decide (x.what = 3)
def toldR (pre : List MkM) (x : MkM) : Bool :=
  if x.kind = 5 then (decide (x.what = 3) || decide (x.what = 4)) && !pre.any (isOf 5 x.node)
  else if x.kind = 6 then pre.any (isCustom x.node)
  else if x.kind = 8 then !pre.any (isOf 8 x.node)
  else if x.kind = 4 then decide (x.node = -1) == !decide (x.err = 0)
  else true
def nextR (s : List OpM) (x : MkM) : List OpM := if opensK x.kind then s ++ [opOf x] else if x.kind = 4 then s.dropLast else s
def lastOver (pre : List MkM) : Bool := (pre.getLast?.map fun x => decide (x.kind = 10)).getD false
structure Inv (b : BookM) (pre : List MkM) : Prop where
  over : b.over = lastOver pre
  piled : ∀ t ∈ b.stk, opensK t.kind = true ∧ 1 ≤ t.depth
  became : ∀ n, tget n b.became = (pre.find? (isOf 5 n)).map MkM.what
  kept : ∀ n, (tget n b.kept).getD 0 = if pre.any (isOf 8 n) then 1 else 0
  once : ∀ n, pre.countP (isOf 5 n) ≤ 1
  begun : ((b.stk.countP fun t => decide (t.kind = 3) : Nat) : Int) = (pre.countP (fun x => decide (x.kind = 3)) : Nat) - (pre.countP (fun x => decide (x.kind = 4)) : Nat)
theorem inv0 : Inv book0 [] := ⟨rfl, (by intro t h; cases h), (by intro n; rfl), (by intro n; rfl), (by intro n; exact Nat.zero_le _), rfl⟩
theorem top_piled {b : BookM} {pre : List MkM} (h : Inv b pre) (d : Int) : shutM d b.stk = [] ∧ topM (shutM d b.stk) = ⟨0, 0, 0⟩ ∨ shutM d b.stk ≠ [] ∧ opensK (topM (shutM d b.stk)).kind = true ∧ 1 ≤ (topM (shutM d b.stk)).depth := by
  by_cases hs : shutM d b.stk = []
  · left; rw [hs]; exact ⟨rfl, rfl⟩
  · right
    obtain ⟨r, t, hr⟩ := snoc_of_ne hs
    have ht : t ∈ b.stk := shut_mem (d := d) (by rw [hr]; simp)
    rw [hr, top_snoc]
    exact ⟨by simp, h.piled t ht⟩
theorem opens_iff (k : Int) : opensK k = true ↔ k = 3 ∨ k = 9 ∨ k = 6 := by unfold opensK; simp [or_assoc]
theorem opens_false (k : Int) : opensK k = false ↔ k ≠ 3 ∧ k ≠ 9 ∧ k ≠ 6 := by unfold opensK; simp [and_assoc]
theorem any_find {pre : List MkM} {p : MkM → Bool} : (pre.find? p).isNone = !pre.any p := by
  cases h : pre.find? p with
  | none => simp at h; simp; intro x hx; simpa using h x hx
  | some a =>
    have h1 := List.find?_some h
    have h2 := List.mem_of_find?_eq_some h
    have : pre.any p = true := List.any_eq_true.2 ⟨a, h2, h1⟩
    simp [this]
theorem custom_find {pre : List MkM} {n : Int} (h : pre.countP (isOf 5 n) ≤ 1) : decide ((pre.find? (isOf 5 n)).map MkM.what = some 3) = pre.any (isCustom n) := by
  induction pre with
  | nil => rfl
  | cons x r ih =>
    rw [List.find?_cons, List.any_cons]
    cases hx : isOf 5 n x with
    | true =>
      have hr : r.countP (isOf 5 n) = 0 := by rw [List.countP_cons, hx] at h; simpa using h
      have hn : r.any (isCustom n) = false := by
        rw [List.any_eq_false]
        intro y hy
        rw [List.countP_eq_zero] at hr
        have := hr y hy
        unfold isCustom; simp [this]
      rw [hn]
      unfold isCustom; simp [hx]
    | false =>
      have h' : r.countP (isOf 5 n) ≤ 1 := by rw [List.countP_cons, hx] at h; simpa using h
      rw [show isCustom n x = false by unfold isCustom; simp [hx], Bool.false_or]
      exact ih h'
theorem lives_ref {b : BookM} {pre : List MkM} (h : Inv b pre) (x : MkM) : (livesM b.became b.kept x).2.2 = toldR pre x := by
  have hb := h.became x.node
  have hk := h.kept x.node
  have hc := custom_find (h.once x.node)
  have ha := any_find (pre := pre) (p := isOf 5 x.node)
  unfold livesM toldR
  by_cases e5 : x.kind = 5
  · rw [if_pos e5, if_pos e5]
    show ((tget x.node b.became).isNone && _) = _
    rw [hb, Option.isNone_map, ha, Bool.and_comm]
  · rw [if_neg e5, if_neg e5]
    by_cases e6 : x.kind = 6
    · rw [if_pos e6, if_pos e6]
      show decide (tget x.node b.became = some 3) = _
      rw [hb, hc]
    · rw [if_neg e6, if_neg e6]
      by_cases e8 : x.kind = 8
      · rw [if_pos e8, if_pos e8]
        show decide ((tget x.node b.kept).getD 0 + 1 = 1) = _
        rw [hk]
        cases pre.any (isOf 8 x.node) <;> rfl
      · rw [if_neg e8, if_neg e8]
        by_cases e4 : x.kind = 4
        · rw [if_pos e4, if_pos e4]
        · rw [if_neg e4, if_neg e4]
def guardM (b : BookM) (x : MkM) : Bool := !b.over && decide (1 ≤ x.kind) && decide (x.kind ≤ 10) && deepM x
theorem readM_snd (b : BookM) (x : MkM) : (readM b x).2 = (guardM b x && (standsM (shutM (leastM x) b.stk) x).2 && (livesM b.became b.kept x).2.2) := by
  unfold readM guardM
  by_cases h : b.over = true ∨ x.kind < 1 ∨ 10 < x.kind ∨ deepM x = false
  · rw [if_pos h]
    rcases h with h | h | h | h
    · simp [h]
    · have : decide (1 ≤ x.kind) = false := decide_eq_false (by omega)
      simp [this]
    · have : decide (x.kind ≤ 10) = false := decide_eq_false (by omega)
      simp [this]
    · simp [h]
  · rw [if_neg h]
    have h1 : b.over = false := by simpa using fun e => h (.inl e)
    have h2 : deepM x = true := by simpa using fun e => h (.inr (.inr (.inr e)))
    have h3 : decide (1 ≤ x.kind) = true := decide_eq_true (by omega)
    have h4 : decide (x.kind ≤ 10) = true := decide_eq_true (by omega)
    rw [h1, h2, h3, h4]
    cases hs : (standsM (shutM (leastM x) b.stk) x).2 <;> simp [hs]
theorem readM_fst {b : BookM} {x : MkM} (h : (readM b x).2 = true) : (readM b x).1 = ⟨(standsM (shutM (leastM x) b.stk) x).1, (livesM b.became b.kept x).1, (livesM b.became b.kept x).2.1, decide (x.kind = 10)⟩ := by
  have h0 := h
  rw [readM_snd] at h0
  simp only [Bool.and_eq_true] at h0
  obtain ⟨⟨hg, hs⟩, _⟩ := h0
  unfold guardM at hg
  simp only [Bool.and_eq_true, Bool.not_eq_true', decide_eq_true_eq] at hg
  obtain ⟨⟨⟨h1, h2⟩, h3⟩, h4⟩ := hg
  unfold readM
  rw [if_neg (by rw [h1, h4]; simp; omega)]
  dsimp only
  rw [if_neg (by rw [hs]; simp)]
theorem stands_ref {b : BookM} {pre : List MkM} (h : Inv b pre) (x : MkM) : (guardM b x && (standsM (shutM (leastM x) b.stk) x).2) = (!b.over && placeR (shutM (leastM x) b.stk) x) := by
  have ht := top_piled h (leastM x)
  generalize shutM (leastM x) b.stk = s at ht ⊢
  have hT : topM s = ⟨0, 0, 0⟩ ∧ s = [] ∨ s ≠ [] ∧ (topM s).kind ≠ 0 ∧ 1 ≤ (topM s).depth := by
    rcases ht with ⟨a, b⟩ | ⟨a, b, c⟩
    · exact .inl ⟨b, a⟩
    · refine .inr ⟨a, ?_, c⟩
      have := (opens_iff _).1 b
      omega
  clear ht
  generalize hq : topM s = q at hT
  unfold guardM
  cases b.over with
  | true => rfl
  | false =>
    simp only [Bool.not_false, Bool.true_and]
    by_cases hx : x.kind < 1 ∨ 10 < x.kind
    · have e1 : x.kind ≠ 1 := by omega
      have e2 : x.kind ≠ 2 := by omega
      have e3 : x.kind ≠ 3 := by omega
      have e4 : x.kind ≠ 4 := by omega
      have e5 : x.kind ≠ 5 := by omega
      have e6 : x.kind ≠ 6 := by omega
      have e7 : x.kind ≠ 7 := by omega
      have e8 : x.kind ≠ 8 := by omega
      have e9 : x.kind ≠ 9 := by omega
      have e10 : x.kind ≠ 10 := by omega
      have h1 : placeR s x = false := by unfold placeR; simp [*]
      have h2 : (decide (1 ≤ x.kind) && decide (x.kind ≤ 10)) = false := by simp; omega
      rw [h1, h2]; rfl
    · have hcases : x.kind = 1 ∨ x.kind = 2 ∨ x.kind = 3 ∨ x.kind = 4 ∨ x.kind = 5 ∨ x.kind = 6 ∨ x.kind = 7 ∨ x.kind = 8 ∨ x.kind = 9 ∨ x.kind = 10 := by omega
      have h2 : (decide (1 ≤ x.kind) && decide (x.kind ≤ 10)) = true := by simp; omega
      rw [h2, Bool.true_and]
      rcases hcases with e | e | e | e | e | e | e | e | e | e
      all_goals simp only [deepM, standsM, placeR, e, opensK, hq]
      · simp
      · simp
      · rw [Bool.eq_iff_iff]; simp; omega
      · rcases hT with ⟨rfl, rfl⟩ | ⟨h1, h2, h3⟩
        · simp
        · by_cases hz : q = ⟨3, x.depth, x.what⟩
          · subst hz; simp [h1]
          · have hz' : ¬ (q.kind = 3 ∧ q.depth = x.depth ∧ q.what = x.what) := by
              rintro ⟨a, b, c⟩; apply hz; cases q; simp at a b c; rw [a, b, c]
            simp [h1, hz]
            intro _ a b c; exact hz' ⟨a, b, c⟩
      · rcases hT with ⟨rfl, rfl⟩ | ⟨h1, h2, h3⟩
        · simp
          by_cases hp : 0 ≤ x.depth
          · rw [Bool.eq_iff_iff]; simp [hp]; omega
          · simp [hp]
        · by_cases hp : 0 ≤ x.depth
          · rw [Bool.eq_iff_iff]; simp [hp]; omega
          · simp [hp]
      · rw [Bool.eq_iff_iff]; simp; omega
      · simp
      · rcases hT with ⟨rfl, rfl⟩ | ⟨h1, h2, h3⟩
        · simp
        · simp [h1, h2]
      · rw [Bool.eq_iff_iff]; simp; omega
      · simp
/-- The document's answer to one mark more. -/
theorem read_ref {b : BookM} {pre : List MkM} (h : Inv b pre) (x : MkM) : (readM b x).2 = (!b.over && placeR (shutM (leastM x) b.stk) x && toldR pre x) := by
  rw [readM_snd, stands_ref h, lives_ref h]
theorem read_next {b : BookM} {x : MkM} (h : (readM b x).2 = true) : (readM b x).1.stk = nextR (shutM (leastM x) b.stk) x := by
  rw [readM_fst h]
  rw [readM_snd] at h
  simp only [Bool.and_eq_true] at h
  obtain ⟨⟨_, h⟩, _⟩ := h
  show (standsM _ x).1 = _
  generalize shutM (leastM x) b.stk = s at h ⊢
  unfold nextR
  unfold standsM at h ⊢
  cases ho : opensK x.kind with
  | true => rfl
  | false =>
    rw [ho] at h
    simp only [Bool.false_eq_true, if_false] at h ⊢
    repeat' split at h
    all_goals (simp_all <;> omega)
theorem Inv.step {b : BookM} {pre : List MkM} (h : Inv b pre) {x : MkM} (hr : (readM b x).2 = true) : Inv (readM b x).1 (pre ++ [x]) := by
  have hn := read_next hr
  have hf := readM_fst hr
  have hL := hr
  rw [read_ref h] at hr
  simp only [Bool.and_eq_true] at hr
  obtain ⟨⟨_, hp⟩, ht⟩ := hr
  have htop := top_piled h (leastM x)
  refine ⟨?_, ?_, ?_, ?_, ?_, ?_⟩
  · rw [hf]; unfold lastOver; simp
  · rw [hn]
    intro t hm
    unfold nextR at hm
    split at hm
    · rename_i ho
      rw [List.mem_append] at hm
      rcases hm with hm | hm
      · exact h.piled t (shut_mem hm)
      · simp at hm; subst hm
        refine ⟨ho, ?_⟩
        unfold placeR at hp
        have := (opens_iff _).1 ho
        rw [if_pos (by omega)] at hp
        simp at hp
        exact hp.1
    · split at hm
      · exact h.piled t (shut_mem (List.dropLast_subset _ hm))
      · exact h.piled t (shut_mem hm)
  · intro n
    rw [hf]
    show tget n (livesM b.became b.kept x).1 = _
    unfold livesM
    rw [List.find?_append]
    by_cases e5 : x.kind = 5
    · rw [if_pos e5]
      show tget n (tput x.node x.what b.became) = _
      rw [tget_put]
      unfold toldR at ht
      rw [if_pos e5] at ht
      simp only [Bool.and_eq_true, Bool.not_eq_true'] at ht
      have hnone : pre.find? (isOf 5 x.node) = none := by
        have := any_find (pre := pre) (p := isOf 5 x.node)
        rw [ht.2] at this
        simpa using this
      by_cases hx : x.node = n
      · subst hx
        rw [if_pos rfl, hnone]
        simp [isOf, e5]
      · rw [if_neg hx, h.became n]
        have : isOf 5 n x = false := by simp [isOf, hx]
        simp [this]
    · have : isOf 5 n x = false := by simp [isOf, e5]
      rw [if_neg e5]
      have hb := h.became n
      repeat' split
      all_goals (show tget n b.became = _; rw [hb]; simp [this])
  · intro n
    rw [hf]
    show (tget n (livesM b.became b.kept x).2.1).getD 0 = _
    rw [List.any_append]
    simp only [List.any_cons, List.any_nil, Bool.or_false]
    have hk := h.kept n
    unfold livesM
    by_cases e8 : x.kind = 8
    · rw [if_neg (by omega), if_neg (by omega), if_pos e8]
      show (tget n (tput x.node _ b.kept)).getD 0 = _
      rw [tget_put]
      unfold toldR at ht
      rw [if_neg (by omega), if_neg (by omega), if_pos e8] at ht
      by_cases hx : x.node = n
      · subst hx
        rw [if_pos rfl]
        have : isOf 8 x.node x = true := by simp [isOf, e8]
        simp only [Bool.not_eq_true'] at ht
        rw [hk, this, ht]
        rfl
      · rw [if_neg hx, hk]
        have : isOf 8 n x = false := by simp [isOf, hx]
        simp [this]
    · have : isOf 8 n x = false := by simp [isOf, e8]
      rw [this, Bool.or_false, ← hk]
      by_cases e5 : x.kind = 5
      · rw [if_pos e5]
      · rw [if_neg e5]
        by_cases e6 : x.kind = 6
        · rw [if_pos e6]
        · rw [if_neg e6, if_neg e8]
          by_cases e4 : x.kind = 4
          · rw [if_pos e4]
          · rw [if_neg e4]
  · intro n
    rw [List.countP_append]
    have h1 := h.once n
    have h2 : [x].countP (isOf 5 n) = if isOf 5 n x = true then 1 else 0 := by rw [List.countP_cons]; simp
    rw [h2]
    split
    · rename_i hx
      simp only [isOf, Bool.and_eq_true, decide_eq_true_eq] at hx
      unfold toldR at ht
      rw [if_pos hx.1] at ht
      simp only [Bool.and_eq_true, Bool.not_eq_true'] at ht
      have : pre.countP (isOf 5 n) = 0 := by
        rw [List.countP_eq_zero]
        intro y hy
        have h3 := ht.2
        rw [List.any_eq_false] at h3
        rw [← hx.2]
        exact h3 y hy
      omega
    · omega
  · rw [hn]
    have hc := shut_began (leastM x) b.stk
    have hb := h.begun
    rw [← hc] at hb
    rw [List.countP_append, List.countP_append]
    have h3 : [x].countP (fun x => decide (x.kind = 3)) = if x.kind = 3 then 1 else 0 := by rw [List.countP_cons]; simp
    have h4 : [x].countP (fun x => decide (x.kind = 4)) = if x.kind = 4 then 1 else 0 := by rw [List.countP_cons]; simp
    rw [h3, h4]
    unfold nextR
    cases ho : opensK x.kind with
    | true =>
      rw [if_pos rfl, List.countP_append]
      have h5 : [opOf x].countP (fun t => decide (t.kind = 3)) = if x.kind = 3 then 1 else 0 := by
        simp only [List.countP_cons, List.countP_nil, opOf]
        by_cases e : x.kind = 3 <;> simp [e]
      rw [h5]
      have := (opens_iff _).1 ho
      have e4 : ¬ x.kind = 4 := by omega
      rw [if_neg e4]
      split <;> push_cast <;> omega
    | false =>
      have h0 := (opens_false _).1 ho
      rw [if_neg (by simp), if_neg h0.1]
      split
      · rename_i e4
        unfold placeR at hp
        rw [if_neg (by omega), if_neg (by omega), if_neg (by omega), if_neg (by omega), if_pos e4] at hp
        simp only [Bool.and_eq_true, decide_eq_true_eq] at hp
        rcases htop with ⟨_, hh⟩ | ⟨hne, _⟩
        · rw [hh] at hp; simp at hp
        · obtain ⟨r, t, hr⟩ := snoc_of_ne hne
          rw [hr] at hb hp ⊢
          rw [top_snoc] at hp
          rw [List.dropLast_concat]
          rw [List.countP_append] at hb
          have : [t].countP (fun t => decide (t.kind = 3)) = 1 := by rw [List.countP_cons]; simp [hp]
          rw [this] at hb
          push_cast at hb ⊢
          omega
      · push_cast; omega
/-- What was read of marks that may stand. -/
def runM : BookM → List MkM → Option BookM
  | b, [] => some b
  | b, x :: r => if (readM b x).2 = true then runM (readM b x).1 r else none
theorem Inv.run : ∀ {l : List MkM} {b b' : BookM} {pre : List MkM}, Inv b pre → runM b l = some b' → Inv b' (pre ++ l)
  | [], b, b', pre, h, e => by cases e; simpa using h
  | x :: r, b, b', pre, h, e => by
    unfold runM at e
    split at e
    · rename_i hr
      have := Inv.run (h.step hr) e
      simpa using this
    · cases e
theorem run_snoc : ∀ {l : List MkM} {b b' : BookM} {x : MkM}, runM b l = some b' → runM b (l ++ [x]) = if (readM b' x).2 = true then some (readM b' x).1 else none
  | [], b, b', x, e => by cases e; rfl
  | y :: r, b, b', x, e => by
    unfold runM at e
    show (if (readM b y).2 = true then runM (readM b y).1 (r ++ [x]) else none) = _
    split at e
    · rename_i hr; rw [if_pos hr]; exact run_snoc e
    · cases e
theorem check_cases : ∀ (l : List MkM) (b : BookM) (i : Nat), (checkM b i l = -1 ∧ ∃ b', runM b l = some b') ∨ ∃ (k : Nat) (x : MkM) (b' : BookM), checkM b i l = ((i + k : Nat) : Int) ∧ l[k]? = some x ∧ runM b (l.take k) = some b' ∧ (readM b' x).2 = false
  | [], b, i => .inl ⟨rfl, b, rfl⟩
  | x :: r, b, i => by
    unfold checkM
    cases hr : (readM b x).2 with
    | false => exact .inr ⟨0, x, b, by rw [if_neg (by simp)]; rfl, rfl, rfl, hr⟩
    | true =>
      rw [if_pos rfl]
      rcases check_cases r (readM b x).1 (i + 1) with ⟨h1, b', h2⟩ | ⟨k, y, b', h1, h2, h3, h4⟩
      · exact .inl ⟨h1, b', by unfold runM; rw [if_pos hr]; exact h2⟩
      · refine .inr ⟨k + 1, y, b', by rw [h1]; congr 1; omega, h2, ?_, h4⟩
        rw [List.take_succ_cons]
        unfold runM
        rw [if_pos hr]; exact h3
end Go.Proofs.Audit
end
section
set_option linter.unusedSimpArgs false
set_option linter.unusedVariables false
namespace Go.Proofs.Audit
open Go.Am Go.RowKit Go.Lib
/-! ### parts -/
theorem run_take : ∀ {l : List MkM} {b b' : BookM} (k : Nat), runM b l = some b' → ∃ b1, runM b (l.take k) = some b1
  | l, b, b', 0, _ => ⟨b, rfl⟩
  | [], b, b', k + 1, h => ⟨b, rfl⟩
  | x :: r, b, b', k + 1, h => by
    unfold runM at h
    split at h
    · rename_i hr
      obtain ⟨b1, h1⟩ := run_take k h
      exact ⟨b1, by rw [List.take_succ_cons]; unfold runM; rw [if_pos hr]; exact h1⟩
    · cases h
theorem check_of_run : ∀ {l : List MkM} {b b' : BookM} {i : Nat}, runM b l = some b' → checkM b i l = -1
  | [], _, _, _, _ => rfl
  | x :: r, b, b', i, h => by
    unfold runM at h
    split at h
    · rename_i hr
      unfold checkM
      rw [if_pos hr]
      exact check_of_run h
    · cases h
theorem check_at : ∀ {l : List MkM} {b b' : BookM} {i k : Nat} {x : MkM}, l[k]? = some x → runM b (l.take k) = some b' → (readM b' x).2 = false → checkM b i l = ((i + k : Nat) : Int)
  | [], _, _, _, _, _, h, _, _ => by simp at h
  | y :: r, b, b', i, 0, x, h, h1, h2 => by
    cases h; cases h1
    unfold checkM
    rw [h2, if_neg (by simp)]; rfl
  | y :: r, b, b', i, k + 1, x, h, h1, h2 => by
    rw [List.take_succ_cons] at h1
    unfold runM at h1
    split at h1
    · rename_i hr
      unfold checkM
      rw [if_pos hr, check_at (k := k) h h1 h2]
      congr 1; omega
    · cases h1
theorem check_take (l : List MkM) (k : Nat) (h : checkM book0 0 l = -1 ∨ (k : Int) ≤ checkM book0 0 l) : checkM book0 0 (l.take k) = -1 := by
  rcases check_cases l book0 0 with ⟨_, b', h1⟩ | ⟨j, x, b', h1, h2, h3, h4⟩
  · obtain ⟨b1, h2⟩ := run_take k h1
    exact check_of_run h2
  · rw [h1] at h
    have hk : k ≤ j := by omega
    obtain ⟨b1, h5⟩ := run_take k h3
    rw [List.take_take, Nat.min_eq_left hk] at h5
    exact check_of_run h5
theorem check_take_at (l : List MkM) (k : Nat) (h1 : checkM book0 0 l ≠ -1) (h2 : checkM book0 0 l < (k : Int)) : checkM book0 0 (l.take k) = checkM book0 0 l := by
  rcases check_cases l book0 0 with ⟨h, _⟩ | ⟨j, x, b', g1, g2, g3, g4⟩
  · exact absurd h h1
  · rw [g1] at h2 ⊢
    have hj : j < k := by omega
    exact check_at (k := j) (by rw [List.getElem?_take_of_lt hj]; exact g2) (by rw [List.take_take, Nat.min_eq_left (by omega)]; exact g3) g4
theorem check_range (l : List MkM) (h : checkM book0 0 l ≠ -1) : 0 ≤ checkM book0 0 l ∧ checkM book0 0 l < (l.length : Int) := by
  rcases check_cases l book0 0 with ⟨h1, _⟩ | ⟨j, x, b', g1, g2, g3, g4⟩
  · exact absurd h1 h
  · rw [g1]
    have := (List.getElem?_eq_some_iff.1 g2).1
    omega
theorem check_more (l : List MkM) (x : MkM) (h : checkM book0 0 l = -1) : (checkM book0 0 (l ++ [x]) = -1 ∨ checkM book0 0 (l ++ [x]) = (l.length : Int)) ∧ (∀ y, l.getLast? = some y → y.kind = 10 → checkM book0 0 (l ++ [x]) = (l.length : Int)) := by
  rcases check_cases l book0 0 with ⟨_, b', h1⟩ | ⟨j, y, b', g1, _⟩
  · have hs := run_snoc (x := x) h1
    have bad : (readM b' x).2 = false → checkM book0 0 (l ++ [x]) = (l.length : Int) := fun hr => by
      have := check_at (i := 0) (l := l ++ [x]) (k := l.length) (x := x) (b := book0) (b' := b') (by simp) (by rw [List.take_left]; exact h1) hr
      simpa using this
    constructor
    · cases hr : (readM b' x).2 with
      | true => rw [hr, if_pos rfl] at hs; exact .inl (check_of_run hs)
      | false => exact .inr (bad hr)
    · intro y hy hk
      have hI := inv0.run h1
      apply bad
      rw [readM_snd]
      have : b'.over = true := by rw [hI.over]; unfold lastOver; simp [hy, hk]
      simp [guardM, this]
  · rw [g1] at h; omega
/-! ### lives -/
theorem became_eq (l : List MkM) (n : Int) : becameM l n = ((l.find? (isOf 5 n)).map MkM.what).getD 0 := rfl
theorem at_inv {l : List MkM} (h : checkM book0 0 l = -1) {i : Nat} {x : MkM} (hx : l[i]? = some x) : ∃ b, Inv b (l.take i) ∧ (readM b x).2 = true := by
  rcases check_cases l book0 0 with ⟨_, b', h1⟩ | ⟨j, y, b', g1, _⟩
  · obtain ⟨b1, h2⟩ := run_take i h1
    refine ⟨b1, by simpa using inv0.run h2, ?_⟩
    cases hr : (readM b1 x).2 with
    | true => rfl
    | false =>
      have := check_at (i := 0) hx h2 hr
      rw [h] at this; omega
  · rw [g1] at h; omega
theorem find_take {p : MkM → Bool} {l : List MkM} {i : Nat} {y : MkM} (h : (l.take i).find? p = some y) : l.find? p = some y := by
  conv => lhs; rw [← List.take_append_drop i l]
  rw [List.find?_append, h]; rfl
theorem find_at {p : MkM → Bool} {l : List MkM} {i : Nat} {x : MkM} (h : (l.take i).find? p = none) (hx : l[i]? = some x) (hp : p x = true) : l.find? p = some x := by
  obtain ⟨hi, rfl⟩ := List.getElem?_eq_some_iff.1 hx
  conv => lhs; rw [← List.take_append_drop i l]
  rw [List.find?_append, h, List.drop_eq_getElem_cons hi, List.find?_cons, hp]; rfl
theorem lives_became {l : List MkM} (h : checkM book0 0 l = -1) {i : Nat} {x : MkM} (hx : l[i]? = some x) (hk : x.kind = 5) : becameM (l.take i) x.node = 0 ∧ becameM l x.node = x.what ∧ (x.what = 3 ∨ x.what = 4) := by
  obtain ⟨b, hI, hr⟩ := at_inv h hx
  rw [read_ref hI] at hr
  simp only [Bool.and_eq_true] at hr
  have ht := hr.2
  unfold toldR at ht
  rw [if_pos hk] at ht
  simp only [Bool.and_eq_true, Bool.or_eq_true, decide_eq_true_eq, Bool.not_eq_true'] at ht
  have hnone : (l.take i).find? (isOf 5 x.node) = none := by
    have := any_find (pre := l.take i) (p := isOf 5 x.node)
    rw [ht.2] at this
    simpa using this
  refine ⟨by rw [became_eq, hnone]; rfl, ?_, ht.1⟩
  rw [became_eq, find_at hnone hx (by simp [isOf, hk])]; rfl
theorem lives_called {l : List MkM} (h : checkM book0 0 l = -1) {i : Nat} {x : MkM} (hx : l[i]? = some x) (hk : x.kind = 6) : becameM (l.take i) x.node = 3 ∧ becameM l x.node = 3 := by
  obtain ⟨b, hI, hr⟩ := at_inv h hx
  rw [read_ref hI] at hr
  simp only [Bool.and_eq_true] at hr
  have ht := hr.2
  unfold toldR at ht
  rw [if_neg (by omega), if_pos hk, ← custom_find (hI.once x.node)] at ht
  simp only [decide_eq_true_eq] at ht
  rw [became_eq, became_eq]
  cases hf : (l.take i).find? (isOf 5 x.node) with
  | none => rw [hf] at ht; cases ht
  | some y =>
    rw [hf] at ht
    rw [find_take hf]
    simp at ht ⊢
    exact ht
theorem lives_ended {l : List MkM} (h : checkM book0 0 l = -1) {i : Nat} {x : MkM} (hx : l[i]? = some x) (hk : x.kind = 4) : (l.take i).countP (fun x => decide (x.kind = 4)) + 1 ≤ (l.take i).countP (fun x => decide (x.kind = 3)) := by
  obtain ⟨b, hI, hr⟩ := at_inv h hx
  have h1 := (hI.step hr).begun
  rw [List.countP_append, List.countP_append] at h1
  have h3 : [x].countP (fun x => decide (x.kind = 3)) = 0 := by simp [hk]
  have h4 : [x].countP (fun x => decide (x.kind = 4)) = 1 := by simp [hk]
  rw [h3, h4] at h1
  push_cast at h1
  omega
theorem lives_balance {l : List MkM} (h : checkM book0 0 l = -1) {i : Nat} {x : MkM} (hx : l[i]? = some x) (hk : x.kind = 1 ∨ x.kind = 8) (hd : x.depth = 0) : (l.take i).countP (fun x => decide (x.kind = 3)) = (l.take i).countP (fun x => decide (x.kind = 4)) := by
  obtain ⟨b, hI, hr⟩ := at_inv h hx
  have hb := hI.begun
  rw [← shut_began (leastM x)] at hb
  have ht := top_piled hI (leastM x)
  rw [read_ref hI] at hr
  simp only [Bool.and_eq_true] at hr
  obtain ⟨⟨_, hp⟩, _⟩ := hr
  rcases ht with ⟨h0, _⟩ | ⟨h1, h2, h3⟩
  · rw [h0] at hb
    simp at hb; omega
  · exfalso
    have hop := (opens_iff _).1 h2
    unfold placeR at hp
    rcases hk with e | e
    · rw [if_neg (by omega), if_pos (by omega)] at hp
      simp [hd] at hp; omega
    · rw [if_neg (by omega), if_neg (by omega), if_neg (by omega), if_pos e] at hp
      simp [hd] at hp; omega
/-! ### sums -/
theorem calls_app (a b : List MkM) (n k : Int) : callsM (a ++ b) n k = callsM a n k + callsM b n k := List.countP_append
theorem begun_app (a b : List MkM) : begunM (a ++ b) = begunM a ++ begunM b := by unfold begunM; rw [List.filter_append, List.map_append]
theorem became_app (a b : List MkM) (n : Int) (h : becameM a n ≠ 0) : becameM (a ++ b) n = becameM a n := by
  unfold becameM at h ⊢
  rw [List.find?_append]
  cases hf : a.find? (isBecame n) with
  | none => rw [hf] at h; exact absurd rfl h
  | some y => rfl
theorem chain_ge (n : Int) (s : ByteArray) : ∀ (l : List MkM) (last : Option MkM) (i : Nat), chainM n s last i l = -1 ∨ ∃ (k : Nat) (x : MkM), chainM n s last i l = ((i + k : Nat) : Int) ∧ l[k]? = some x ∧ isChange n s x = true
  | [], last, i => .inl rfl
  | x :: r, last, i => by
    unfold chainM
    have next : ∀ last', (chainM n s last' (i + 1) r = -1 ∨ ∃ (k : Nat) (y : MkM), chainM n s last' (i + 1) r = ((i + k : Nat) : Int) ∧ (x :: r)[k]? = some y ∧ isChange n s y = true) := by
      intro last'
      rcases chain_ge n s r last' (i + 1) with h | ⟨k, y, h1, h2, h3⟩
      · exact .inl h
      · exact .inr ⟨k + 1, y, by rw [h1]; congr 1; omega, h2, h3⟩
    cases hc : isChange n s x with
    | true =>
      rw [if_pos rfl]
      split
      · exact .inr ⟨0, x, rfl, rfl, hc⟩
      · exact next _
    | false => rw [if_neg (by simp)]; exact next _
theorem chain_take {n : Int} {s : ByteArray} : ∀ {l : List MkM} {last : Option MkM} {i : Nat} (k : Nat), chainM n s last i l = -1 → chainM n s last i (l.take k) = -1
  | l, last, i, 0, _ => rfl
  | [], last, i, k + 1, _ => rfl
  | x :: r, last, i, k + 1, h => by
    rw [List.take_succ_cons]
    unfold chainM at h ⊢
    split
    · rename_i hc
      rw [if_pos hc] at h
      split
      · rename_i hb; rw [if_pos hb] at h; omega
      · rename_i hb; rw [if_neg hb] at h; exact chain_take k h
    · rename_i hc
      rw [if_neg hc] at h
      exact chain_take k h
theorem chain_free {n : Int} {s : ByteArray} : ∀ {l : List MkM} {last : Option MkM} {i j : Nat}, chainM n s last i l = -1 → chainM n s none j l = -1 ∧ chainM n s last j l = -1
  | [], last, i, j, _ => ⟨rfl, rfl⟩
  | x :: r, last, i, j, h => by
    unfold chainM at h ⊢
    by_cases hc : isChange n s x = true
    · rw [if_pos hc] at h
      simp only [if_pos hc]
      split at h
      · omega
      · rename_i hb
        have := chain_free (j := j + 1) h
        refine ⟨?_, by rw [if_neg hb]; exact this.2⟩
        rw [if_neg (by simp)]; exact this.2
    · rw [if_neg hc] at h
      simp only [if_neg hc]
      exact chain_free h
theorem chain_drop {n : Int} {s : ByteArray} : ∀ {l : List MkM} {last : Option MkM} {i : Nat} (k : Nat), chainM n s last i l = -1 → chainM n s none 0 (l.drop k) = -1
  | l, last, i, 0, h => (chain_free (j := 0) h).1
  | [], last, i, k + 1, _ => by simp [chainM]
  | x :: r, last, i, k + 1, h => by
    rw [List.drop_succ_cons]
    unfold chainM at h
    split at h
    · split at h
      · omega
      · exact chain_drop k h
    · exact chain_drop k h
end Go.Proofs.Audit
end
section
set_option linter.unusedSimpArgs false
set_option linter.unusedVariables false
namespace Go.Proofs.Audit
open Go.Am Go.RowKit Go.Lib
set_option maxRecDepth 100000
@[reducible] def eInt (n : Int) : AV := .lit (.int .i64 n)
@[reducible] def eStr (s : ByteArray) : AV := .lit (.string s)
@[reducible] def eBool (b : Bool) : AV := .lit (.bool b)
@[reducible] def eMk (x : MkM) : AV := .agg [eInt x.kind, eInt x.depth, eInt x.node, eInt x.what, eInt x.err, eStr x.name, eBool x.had, eBool x.has, eStr x.old, eStr x.new, eInt x.fr, eInt x.to, eBool x.on]
def oMk (x : MkM) : AV := eMk x
@[reducible] def eMks (l : List MkM) : AV := .sl 13 (l.map oMk)
@[reducible] def eOp (x : OpM) : AV := .agg [eInt x.kind, eInt x.depth, eInt x.what]
def oOp (x : OpM) : AV := eOp x
def oInt (n : Int) : AV := eInt n
def vInt (n : Int) : Value := .int .i64 n
@[reducible] def eInts (l : List Int) : AV := .sl 1 (l.map oInt)
theorem mk_get {l : List MkM} {k : Nat} {x : MkM} (h : l[k]? = some x) : (l.map oMk)[k]? = some (eMk x) := by rw [List.getElem?_map, h]; rfl
theorem op_get {l : List OpM} {k : Nat} {x : OpM} (h : l[k]? = some x) : (l.map oOp)[k]? = some (eOp x) := by rw [List.getElem?_map, h]; rfl
theorem int_get {l : List Int} {k : Nat} {x : Int} (h : l[k]? = some x) : (l.map oInt)[k]? = some (eInt x) := by rw [List.getElem?_map, h]; rfl
@[reducible] def rT (t : TabI) : MS := .live 2 (tRows vInt oInt t) false
theorem noRef_tab (t : TabI) : noRefL (tRows vInt oInt t) = true := by
  rw [noRefL_iff]; intro x hx
  obtain ⟨a, _, rfl⟩ := List.mem_map.1 hx
  rfl
theorem map39 : MapTy Try.prog 39 (.int .i64) (.int .i64 0) := ⟨3, 3, by kernel_rfl, by kernel_rfl, fun w => Try.zeroValue3 w⟩
set_option maxHeartbeats 4000000 in
/-- opens -/
theorem f32_at {k : Int} {b : Bool} (h : opensK k = b) : FnOK Try.prog 32 [] [eInt k] [] (eBool b) := by
  subst h
  refine FnOK.startC (rvs := [.tmp 2]) G G_good Try.func32 rfl Try.ntmps32 rfl rfl ?_; delta List.toArray; ((with_reducible conv => whnf); (with_reducible conv => congr <;> reduce); repeat ((first | (with_reducible refine HaltK.mk ?_) | (with_reducible refine StopK.mk ?_)); (with_reducible conv => whnf); (with_reducible conv => congr <;> reduce)))
  by_cases e3 : k = 3
  · repeat' (first
    | (first
    | ((with_reducible show IfK _ _ _ _); first | refine IfK.ff ?_ | refine IfK.tt ?_ | refine IfK.no (by first | rfl | assumption | exact nf (by assumption) | exact nt (by assumption) | ((try simp only [castN]); first | (simp [e3]; done) | (simp [e3]; omega))) ?_ | refine IfK.yes (by first | rfl | assumption | exact nf (by assumption) | exact nt (by assumption) | ((try simp only [castN]); first | (simp [e3]; done) | (simp [e3]; omega))) ?_)
    | ((with_reducible show NeedK _ _ _ _); refine NeedK.mk (by (try simp only [castN]); omega) ?_)
    | ((with_reducible show DrawK _ _ _ _); refine DrawK.mk (by kernel_rfl) (by kernel_rfl) (by kernel_rfl) ?_)) <;> ((with_reducible conv => whnf); (with_reducible conv => congr <;> reduce); repeat ((first | (with_reducible refine HaltK.mk ?_) | (with_reducible refine StopK.mk ?_)); (with_reducible conv => whnf); (with_reducible conv => congr <;> reduce)))
    | ((with_reducible show (_ ∧ _) ∧ _ ∧ _); refine ⟨⟨rfl, rfl⟩, ?_, ?_⟩ <;> (with_reducible conv => whnf) <;> repeat' (first | (with_reducible exact trivial) | (with_reducible refine And.intro ?_ ?_ <;> with_reducible conv => whnf))))
    all_goals simp [opensK, e3]
  · by_cases e9 : k = 9
    · repeat' (first
    | (first
    | ((with_reducible show IfK _ _ _ _); first | refine IfK.ff ?_ | refine IfK.tt ?_ | refine IfK.no (by first | rfl | assumption | exact nf (by assumption) | exact nt (by assumption) | ((try simp only [castN]); first | (simp [e9]; done) | (simp [e9]; omega))) ?_ | refine IfK.yes (by first | rfl | assumption | exact nf (by assumption) | exact nt (by assumption) | ((try simp only [castN]); first | (simp [e9]; done) | (simp [e9]; omega))) ?_)
    | ((with_reducible show NeedK _ _ _ _); refine NeedK.mk (by (try simp only [castN]); omega) ?_)
    | ((with_reducible show DrawK _ _ _ _); refine DrawK.mk (by kernel_rfl) (by kernel_rfl) (by kernel_rfl) ?_)) <;> ((with_reducible conv => whnf); (with_reducible conv => congr <;> reduce); repeat ((first | (with_reducible refine HaltK.mk ?_) | (with_reducible refine StopK.mk ?_)); (with_reducible conv => whnf); (with_reducible conv => congr <;> reduce)))
    | ((with_reducible show (_ ∧ _) ∧ _ ∧ _); refine ⟨⟨rfl, rfl⟩, ?_, ?_⟩ <;> (with_reducible conv => whnf) <;> repeat' (first | (with_reducible exact trivial) | (with_reducible refine And.intro ?_ ?_ <;> with_reducible conv => whnf))))
      all_goals simp [opensK, e9]
    · by_cases e6 : k = 6
      · repeat' (first
    | (first
    | ((with_reducible show IfK _ _ _ _); first | refine IfK.ff ?_ | refine IfK.tt ?_ | refine IfK.no (by first | rfl | assumption | exact nf (by assumption) | exact nt (by assumption) | ((try simp only [castN]); first | (simp [e6]; done) | (simp [e6]; omega))) ?_ | refine IfK.yes (by first | rfl | assumption | exact nf (by assumption) | exact nt (by assumption) | ((try simp only [castN]); first | (simp [e6]; done) | (simp [e6]; omega))) ?_)
    | ((with_reducible show NeedK _ _ _ _); refine NeedK.mk (by (try simp only [castN]); omega) ?_)
    | ((with_reducible show DrawK _ _ _ _); refine DrawK.mk (by kernel_rfl) (by kernel_rfl) (by kernel_rfl) ?_)) <;> ((with_reducible conv => whnf); (with_reducible conv => congr <;> reduce); repeat ((first | (with_reducible refine HaltK.mk ?_) | (with_reducible refine StopK.mk ?_)); (with_reducible conv => whnf); (with_reducible conv => congr <;> reduce)))
    | ((with_reducible show (_ ∧ _) ∧ _ ∧ _); refine ⟨⟨rfl, rfl⟩, ?_, ?_⟩ <;> (with_reducible conv => whnf) <;> repeat' (first | (with_reducible exact trivial) | (with_reducible refine And.intro ?_ ?_ <;> with_reducible conv => whnf))))
        all_goals simp [opensK, e6]
      · repeat' (first
    | (first
    | ((with_reducible show IfK _ _ _ _); first | refine IfK.ff ?_ | refine IfK.tt ?_ | refine IfK.no (by first | rfl | assumption | exact nf (by assumption) | exact nt (by assumption) | ((try simp only [castN]); first | (simp [e3, e9, e6]; done) | (simp [e3, e9, e6]; omega))) ?_ | refine IfK.yes (by first | rfl | assumption | exact nf (by assumption) | exact nt (by assumption) | ((try simp only [castN]); first | (simp [e3, e9, e6]; done) | (simp [e3, e9, e6]; omega))) ?_)
    | ((with_reducible show NeedK _ _ _ _); refine NeedK.mk (by (try simp only [castN]); omega) ?_)
    | ((with_reducible show DrawK _ _ _ _); refine DrawK.mk (by kernel_rfl) (by kernel_rfl) (by kernel_rfl) ?_)) <;> ((with_reducible conv => whnf); (with_reducible conv => congr <;> reduce); repeat ((first | (with_reducible refine HaltK.mk ?_) | (with_reducible refine StopK.mk ?_)); (with_reducible conv => whnf); (with_reducible conv => congr <;> reduce)))
    | ((with_reducible show (_ ∧ _) ∧ _ ∧ _); refine ⟨⟨rfl, rfl⟩, ?_, ?_⟩ <;> (with_reducible conv => whnf) <;> repeat' (first | (with_reducible exact trivial) | (with_reducible refine And.intro ?_ ?_ <;> with_reducible conv => whnf))))
        all_goals simp [opensK, e3, e9, e6]
set_option maxHeartbeats 4000000 in
/-- ref.opens -/
theorem f24_at {x : MkM} {b : Bool} (h : opensK x.kind = b) : FnOK Try.prog 24 [] [eMk x] [] (eBool b) := by
  subst h
  obtain ⟨k, a2, a3, a4, a5, a6, a7, a8, a9, a10, a11, a12, a13⟩ := x
  refine FnOK.startC (rvs := [.tmp 2]) G G_good Try.func24 rfl Try.ntmps24 rfl rfl ?_; delta List.toArray; ((with_reducible conv => whnf); (with_reducible conv => congr <;> reduce); repeat ((first | (with_reducible refine HaltK.mk ?_) | (with_reducible refine StopK.mk ?_)); (with_reducible conv => whnf); (with_reducible conv => congr <;> reduce)))
  by_cases e3 : k = 3
  · repeat' (first
    | (first
    | ((with_reducible show IfK _ _ _ _); first | refine IfK.ff ?_ | refine IfK.tt ?_ | refine IfK.no (by first | rfl | assumption | exact nf (by assumption) | exact nt (by assumption) | ((try simp only [castN]); first | (simp [e3]; done) | (simp [e3]; omega))) ?_ | refine IfK.yes (by first | rfl | assumption | exact nf (by assumption) | exact nt (by assumption) | ((try simp only [castN]); first | (simp [e3]; done) | (simp [e3]; omega))) ?_)
    | ((with_reducible show NeedK _ _ _ _); refine NeedK.mk (by (try simp only [castN]); omega) ?_)
    | ((with_reducible show DrawK _ _ _ _); refine DrawK.mk (by kernel_rfl) (by kernel_rfl) (by kernel_rfl) ?_)) <;> ((with_reducible conv => whnf); (with_reducible conv => congr <;> reduce); repeat ((first | (with_reducible refine HaltK.mk ?_) | (with_reducible refine StopK.mk ?_)); (with_reducible conv => whnf); (with_reducible conv => congr <;> reduce)))
    | ((with_reducible show (_ ∧ _) ∧ _ ∧ _); refine ⟨⟨rfl, rfl⟩, ?_, ?_⟩ <;> (with_reducible conv => whnf) <;> repeat' (first | (with_reducible exact trivial) | (with_reducible refine And.intro ?_ ?_ <;> with_reducible conv => whnf))))
    all_goals simp [opensK, e3]
  · by_cases e9 : k = 9
    · repeat' (first
    | (first
    | ((with_reducible show IfK _ _ _ _); first | refine IfK.ff ?_ | refine IfK.tt ?_ | refine IfK.no (by first | rfl | assumption | exact nf (by assumption) | exact nt (by assumption) | ((try simp only [castN]); first | (simp [e9]; done) | (simp [e9]; omega))) ?_ | refine IfK.yes (by first | rfl | assumption | exact nf (by assumption) | exact nt (by assumption) | ((try simp only [castN]); first | (simp [e9]; done) | (simp [e9]; omega))) ?_)
    | ((with_reducible show NeedK _ _ _ _); refine NeedK.mk (by (try simp only [castN]); omega) ?_)
    | ((with_reducible show DrawK _ _ _ _); refine DrawK.mk (by kernel_rfl) (by kernel_rfl) (by kernel_rfl) ?_)) <;> ((with_reducible conv => whnf); (with_reducible conv => congr <;> reduce); repeat ((first | (with_reducible refine HaltK.mk ?_) | (with_reducible refine StopK.mk ?_)); (with_reducible conv => whnf); (with_reducible conv => congr <;> reduce)))
    | ((with_reducible show (_ ∧ _) ∧ _ ∧ _); refine ⟨⟨rfl, rfl⟩, ?_, ?_⟩ <;> (with_reducible conv => whnf) <;> repeat' (first | (with_reducible exact trivial) | (with_reducible refine And.intro ?_ ?_ <;> with_reducible conv => whnf))))
      all_goals simp [opensK, e9]
    · by_cases e6 : k = 6
      · repeat' (first
    | (first
    | ((with_reducible show IfK _ _ _ _); first | refine IfK.ff ?_ | refine IfK.tt ?_ | refine IfK.no (by first | rfl | assumption | exact nf (by assumption) | exact nt (by assumption) | ((try simp only [castN]); first | (simp [e6]; done) | (simp [e6]; omega))) ?_ | refine IfK.yes (by first | rfl | assumption | exact nf (by assumption) | exact nt (by assumption) | ((try simp only [castN]); first | (simp [e6]; done) | (simp [e6]; omega))) ?_)
    | ((with_reducible show NeedK _ _ _ _); refine NeedK.mk (by (try simp only [castN]); omega) ?_)
    | ((with_reducible show DrawK _ _ _ _); refine DrawK.mk (by kernel_rfl) (by kernel_rfl) (by kernel_rfl) ?_)) <;> ((with_reducible conv => whnf); (with_reducible conv => congr <;> reduce); repeat ((first | (with_reducible refine HaltK.mk ?_) | (with_reducible refine StopK.mk ?_)); (with_reducible conv => whnf); (with_reducible conv => congr <;> reduce)))
    | ((with_reducible show (_ ∧ _) ∧ _ ∧ _); refine ⟨⟨rfl, rfl⟩, ?_, ?_⟩ <;> (with_reducible conv => whnf) <;> repeat' (first | (with_reducible exact trivial) | (with_reducible refine And.intro ?_ ?_ <;> with_reducible conv => whnf))))
        all_goals simp [opensK, e6]
      · repeat' (first
    | (first
    | ((with_reducible show IfK _ _ _ _); first | refine IfK.ff ?_ | refine IfK.tt ?_ | refine IfK.no (by first | rfl | assumption | exact nf (by assumption) | exact nt (by assumption) | ((try simp only [castN]); first | (simp [e3, e9, e6]; done) | (simp [e3, e9, e6]; omega))) ?_ | refine IfK.yes (by first | rfl | assumption | exact nf (by assumption) | exact nt (by assumption) | ((try simp only [castN]); first | (simp [e3, e9, e6]; done) | (simp [e3, e9, e6]; omega))) ?_)
    | ((with_reducible show NeedK _ _ _ _); refine NeedK.mk (by (try simp only [castN]); omega) ?_)
    | ((with_reducible show DrawK _ _ _ _); refine DrawK.mk (by kernel_rfl) (by kernel_rfl) (by kernel_rfl) ?_)) <;> ((with_reducible conv => whnf); (with_reducible conv => congr <;> reduce); repeat ((first | (with_reducible refine HaltK.mk ?_) | (with_reducible refine StopK.mk ?_)); (with_reducible conv => whnf); (with_reducible conv => congr <;> reduce)))
    | ((with_reducible show (_ ∧ _) ∧ _ ∧ _); refine ⟨⟨rfl, rfl⟩, ?_, ?_⟩ <;> (with_reducible conv => whnf) <;> repeat' (first | (with_reducible exact trivial) | (with_reducible refine And.intro ?_ ?_ <;> with_reducible conv => whnf))))
        all_goals simp [opensK, e3, e9, e6]
set_option maxHeartbeats 4000000 in
/-- deep -/
theorem f28_at {x : MkM} {b : Bool} (h : deepM x = b) : FnOK Try.prog 28 [] [eMk x] [] (eBool b) := by
  subst h
  obtain ⟨k, d, a3, a4, a5, a6, a7, a8, a9, a10, a11, a12, a13⟩ := x
  refine FnOK.startC (rvs := [.tmp 2]) G G_good Try.func28 rfl Try.ntmps28 rfl rfl ?_; delta List.toArray; ((with_reducible conv => whnf); (with_reducible conv => congr <;> reduce); repeat ((first | (with_reducible refine HaltK.mk ?_) | (with_reducible refine StopK.mk ?_)); (with_reducible conv => whnf); (with_reducible conv => congr <;> reduce)))
  obtain ⟨o, ho⟩ : ∃ o, opensK k = o := ⟨_, rfl⟩
  cases o with
  | true =>
    repeat' (first
    | (first
    | ((with_reducible show IfK _ _ _ _); first | refine IfK.ff ?_ | refine IfK.tt ?_ | refine IfK.no (by first | rfl | assumption | exact nf (by assumption) | exact nt (by assumption) | ((try simp only [castN]); first | (simp []; done) | (simp []; omega))) ?_ | refine IfK.yes (by first | rfl | assumption | exact nf (by assumption) | exact nt (by assumption) | ((try simp only [castN]); first | (simp []; done) | (simp []; omega))) ?_)
    | ((with_reducible show NeedK _ _ _ _); refine NeedK.mk (by (try simp only [castN]); omega) ?_)
    | ((with_reducible show DrawK _ _ _ _); refine DrawK.mk (by kernel_rfl) (by kernel_rfl) (by kernel_rfl) ?_)
    | ((with_reducible show CallK _ _ 32 _ _ _ _); refine CallK.lit [] (f32_at ho) c32 ⟨rfl, trivial⟩ rfl rfl ?_)) <;> ((with_reducible conv => whnf); (with_reducible conv => congr <;> reduce); repeat ((first | (with_reducible refine HaltK.mk ?_) | (with_reducible refine StopK.mk ?_)); (with_reducible conv => whnf); (with_reducible conv => congr <;> reduce)))
    | ((with_reducible show (_ ∧ _) ∧ _ ∧ _); refine ⟨⟨rfl, rfl⟩, ?_, ?_⟩ <;> (with_reducible conv => whnf) <;> repeat' (first | (with_reducible exact trivial) | (with_reducible refine And.intro ?_ ?_ <;> with_reducible conv => whnf))))
    all_goals simp [deepM, ho]
  | false =>
    by_cases e8 : k = 8
    · repeat' (first
    | (first
    | ((with_reducible show IfK _ _ _ _); first | refine IfK.ff ?_ | refine IfK.tt ?_ | refine IfK.no (by first | rfl | assumption | exact nf (by assumption) | exact nt (by assumption) | ((try simp only [castN]); first | (simp [e8]; done) | (simp [e8]; omega))) ?_ | refine IfK.yes (by first | rfl | assumption | exact nf (by assumption) | exact nt (by assumption) | ((try simp only [castN]); first | (simp [e8]; done) | (simp [e8]; omega))) ?_)
    | ((with_reducible show NeedK _ _ _ _); refine NeedK.mk (by (try simp only [castN]); omega) ?_)
    | ((with_reducible show DrawK _ _ _ _); refine DrawK.mk (by kernel_rfl) (by kernel_rfl) (by kernel_rfl) ?_)
    | ((with_reducible show CallK _ _ 32 _ _ _ _); refine CallK.lit [] (f32_at ho) c32 ⟨rfl, trivial⟩ rfl rfl ?_)) <;> ((with_reducible conv => whnf); (with_reducible conv => congr <;> reduce); repeat ((first | (with_reducible refine HaltK.mk ?_) | (with_reducible refine StopK.mk ?_)); (with_reducible conv => whnf); (with_reducible conv => congr <;> reduce)))
    | ((with_reducible show (_ ∧ _) ∧ _ ∧ _); refine ⟨⟨rfl, rfl⟩, ?_, ?_⟩ <;> (with_reducible conv => whnf) <;> repeat' (first | (with_reducible exact trivial) | (with_reducible refine And.intro ?_ ?_ <;> with_reducible conv => whnf))))
      all_goals (subst e8; simp [deepM, opensK])
    · by_cases e10 : k = 10
      · repeat' (first
    | (first
    | ((with_reducible show IfK _ _ _ _); first | refine IfK.ff ?_ | refine IfK.tt ?_ | refine IfK.no (by first | rfl | assumption | exact nf (by assumption) | exact nt (by assumption) | ((try simp only [castN]); first | (simp [e10]; done) | (simp [e10]; omega))) ?_ | refine IfK.yes (by first | rfl | assumption | exact nf (by assumption) | exact nt (by assumption) | ((try simp only [castN]); first | (simp [e10]; done) | (simp [e10]; omega))) ?_)
    | ((with_reducible show NeedK _ _ _ _); refine NeedK.mk (by (try simp only [castN]); omega) ?_)
    | ((with_reducible show DrawK _ _ _ _); refine DrawK.mk (by kernel_rfl) (by kernel_rfl) (by kernel_rfl) ?_)
    | ((with_reducible show CallK _ _ 32 _ _ _ _); refine CallK.lit [] (f32_at ho) c32 ⟨rfl, trivial⟩ rfl rfl ?_)) <;> ((with_reducible conv => whnf); (with_reducible conv => congr <;> reduce); repeat ((first | (with_reducible refine HaltK.mk ?_) | (with_reducible refine StopK.mk ?_)); (with_reducible conv => whnf); (with_reducible conv => congr <;> reduce)))
    | ((with_reducible show (_ ∧ _) ∧ _ ∧ _); refine ⟨⟨rfl, rfl⟩, ?_, ?_⟩ <;> (with_reducible conv => whnf) <;> repeat' (first | (with_reducible exact trivial) | (with_reducible refine And.intro ?_ ?_ <;> with_reducible conv => whnf))))
        all_goals (subst e10; simp [deepM, opensK])
      · repeat' (first
    | (first
    | ((with_reducible show IfK _ _ _ _); first | refine IfK.ff ?_ | refine IfK.tt ?_ | refine IfK.no (by first | rfl | assumption | exact nf (by assumption) | exact nt (by assumption) | ((try simp only [castN]); first | (simp [e8, e10]; done) | (simp [e8, e10]; omega))) ?_ | refine IfK.yes (by first | rfl | assumption | exact nf (by assumption) | exact nt (by assumption) | ((try simp only [castN]); first | (simp [e8, e10]; done) | (simp [e8, e10]; omega))) ?_)
    | ((with_reducible show NeedK _ _ _ _); refine NeedK.mk (by (try simp only [castN]); omega) ?_)
    | ((with_reducible show DrawK _ _ _ _); refine DrawK.mk (by kernel_rfl) (by kernel_rfl) (by kernel_rfl) ?_)
    | ((with_reducible show CallK _ _ 32 _ _ _ _); refine CallK.lit [] (f32_at ho) c32 ⟨rfl, trivial⟩ rfl rfl ?_)) <;> ((with_reducible conv => whnf); (with_reducible conv => congr <;> reduce); repeat ((first | (with_reducible refine HaltK.mk ?_) | (with_reducible refine StopK.mk ?_)); (with_reducible conv => whnf); (with_reducible conv => congr <;> reduce)))
    | ((with_reducible show (_ ∧ _) ∧ _ ∧ _); refine ⟨⟨rfl, rfl⟩, ?_, ?_⟩ <;> (with_reducible conv => whnf) <;> repeat' (first | (with_reducible exact trivial) | (with_reducible refine And.intro ?_ ?_ <;> with_reducible conv => whnf))))
        all_goals simp [deepM, ho, e8, e10]
set_option maxHeartbeats 4000000 in
/-- Became$1 -/
theorem f25_at {x : MkM} {n : Int} {b : Bool} (h : isBecame n x = b) : FnOK Try.prog 25 [] [eMk x, .fptr (eInt n) 0] [] (eBool b) := by
  subst h
  obtain ⟨k, d, a3, a4, a5, a6, a7, a8, a9, a10, a11, a12, a13⟩ := x
  refine FnOK.startC (rvs := [.tmp 3]) G G_good Try.func25 rfl Try.ntmps25 rfl rfl ?_; delta List.toArray; ((with_reducible conv => whnf); (with_reducible conv => congr <;> reduce); repeat ((first | (with_reducible refine HaltK.mk ?_) | (with_reducible refine StopK.mk ?_)); (with_reducible conv => whnf); (with_reducible conv => congr <;> reduce)))
  by_cases e5 : k = 5
  · repeat' (first
    | (first
    | ((with_reducible show IfK _ _ _ _); first | refine IfK.ff ?_ | refine IfK.tt ?_ | refine IfK.no (by first | rfl | assumption | exact nf (by assumption) | exact nt (by assumption) | ((try simp only [castN]); first | (simp [e5]; done) | (simp [e5]; omega))) ?_ | refine IfK.yes (by first | rfl | assumption | exact nf (by assumption) | exact nt (by assumption) | ((try simp only [castN]); first | (simp [e5]; done) | (simp [e5]; omega))) ?_)
    | ((with_reducible show NeedK _ _ _ _); refine NeedK.mk (by (try simp only [castN]); omega) ?_)
    | ((with_reducible show DrawK _ _ _ _); refine DrawK.mk (by kernel_rfl) (by kernel_rfl) (by kernel_rfl) ?_)) <;> ((with_reducible conv => whnf); (with_reducible conv => congr <;> reduce); repeat ((first | (with_reducible refine HaltK.mk ?_) | (with_reducible refine StopK.mk ?_)); (with_reducible conv => whnf); (with_reducible conv => congr <;> reduce)))
    | ((with_reducible show (_ ∧ _) ∧ _ ∧ _); refine ⟨⟨rfl, rfl⟩, ?_, ?_⟩ <;> (with_reducible conv => whnf) <;> repeat' (first | (with_reducible exact trivial) | (with_reducible refine And.intro ?_ ?_ <;> with_reducible conv => whnf))))
    all_goals simp [isBecame, e5]
  · repeat' (first
    | (first
    | ((with_reducible show IfK _ _ _ _); first | refine IfK.ff ?_ | refine IfK.tt ?_ | refine IfK.no (by first | rfl | assumption | exact nf (by assumption) | exact nt (by assumption) | ((try simp only [castN]); first | (simp [e5]; done) | (simp [e5]; omega))) ?_ | refine IfK.yes (by first | rfl | assumption | exact nf (by assumption) | exact nt (by assumption) | ((try simp only [castN]); first | (simp [e5]; done) | (simp [e5]; omega))) ?_)
    | ((with_reducible show NeedK _ _ _ _); refine NeedK.mk (by (try simp only [castN]); omega) ?_)
    | ((with_reducible show DrawK _ _ _ _); refine DrawK.mk (by kernel_rfl) (by kernel_rfl) (by kernel_rfl) ?_)) <;> ((with_reducible conv => whnf); (with_reducible conv => congr <;> reduce); repeat ((first | (with_reducible refine HaltK.mk ?_) | (with_reducible refine StopK.mk ?_)); (with_reducible conv => whnf); (with_reducible conv => congr <;> reduce)))
    | ((with_reducible show (_ ∧ _) ∧ _ ∧ _); refine ⟨⟨rfl, rfl⟩, ?_, ?_⟩ <;> (with_reducible conv => whnf) <;> repeat' (first | (with_reducible exact trivial) | (with_reducible refine And.intro ?_ ?_ <;> with_reducible conv => whnf))))
    all_goals simp [isBecame, e5]
/-- The book in memory: its pile holds s, and behind it room that was used. -/
@[reducible] def rB (ps n pb pk : Nat) (ov : Bool) : MS := .live 4 [.agg [.own ps 0 n, .mapr pb, .mapr pk, eBool ov]] false
@[reducible] def rS (s g : List OpM) : MS := .live 3 ((s ++ g).map oOp) false
section
variable {tab : List (Nat × Nat)} {fz : Nat → Bool} {m : ML} {n : Nat}
theorem ok_tab (t : TabI) : ObjK (MF tab fz m n) (tRows vInt oInt t) (tRows vInt oInt t) := ⟨.refl (noRef_tab t), noRef_tab t⟩
theorem noRef_ops (l : List OpM) : noRefL (l.map oOp) = true := by
  rw [noRefL_iff]; intro x hx
  obtain ⟨a, _, rfl⟩ := List.mem_map.1 hx
  rfl
theorem ok_ops (l : List OpM) : ObjK (MF tab fz m n) (l.map oOp) (l.map oOp) := ⟨.refl (noRef_ops l), noRef_ops l⟩
theorem ok_ops' {l l' : List OpM} (h : l = l') : ObjK (MF tab fz m n) (l.map oOp) (l'.map oOp) := by subst h; exact ok_ops l
end
set_option maxHeartbeats 4000000 in
/-- top -/
theorem f33_ok (s g : List OpM) (bc kp : TabI) (ov : Bool) (hs : s.length ≤ 100000) : FnOK Try.prog 33 [rB 1 s.length 2 3 ov, rS s g, rT bc, rT kp] [.ptr 0 0 0] [rB 1 s.length 2 3 ov, rS s g, rT bc, rT kp] (.tup [eOp (topM s), eBool (!decide (s = []))]) := by
  refine FnOK.startC (rvs := [.cell 2 55, .tmp 3]) G G_good Try.func33 rfl Try.ntmps33 rfl rfl ?_; delta List.toArray; ((with_reducible conv => whnf); (with_reducible conv => congr <;> reduce); repeat ((first | (with_reducible refine HaltK.mk ?_) | (with_reducible refine StopK.mk ?_)); (with_reducible conv => whnf); (with_reducible conv => congr <;> reduce)))
  by_cases e : s = []
  · subst e
    repeat' (first
    | (first
    | ((with_reducible show IfK _ _ _ _); first | refine IfK.ff ?_ | refine IfK.tt ?_ | refine IfK.no (by first | rfl | assumption | exact nf (by assumption) | exact nt (by assumption) | ((try simp only [castN]); first | (simp []; done) | (simp []; omega))) ?_ | refine IfK.yes (by first | rfl | assumption | exact nf (by assumption) | exact nt (by assumption) | ((try simp only [castN]); first | (simp []; done) | (simp []; omega))) ?_)
    | ((with_reducible show NeedK _ _ _ _); refine NeedK.mk (by (try simp only [castN]); omega) ?_)
    | ((with_reducible show DrawK _ _ _ _); refine DrawK.mk (by kernel_rfl) (by kernel_rfl) (by kernel_rfl) ?_)) <;> ((with_reducible conv => whnf); (with_reducible conv => congr <;> reduce); repeat ((first | (with_reducible refine HaltK.mk ?_) | (with_reducible refine StopK.mk ?_)); (with_reducible conv => whnf); (with_reducible conv => congr <;> reduce)))
    | ((with_reducible show (_ ∧ _) ∧ _ ∧ _); refine ⟨⟨rfl, rfl⟩, ?_, ?_⟩ <;> (with_reducible conv => whnf) <;> repeat' (first | (with_reducible exact trivial) | (with_reducible refine And.intro ?_ ?_ <;> with_reducible conv => whnf))))
    all_goals first | exact ok_tab _ | exact ok_ops _ | rfl | (rw [top_snoc]) | (simp; done) | trace_state
  · obtain ⟨r, t, rfl⟩ := snoc_of_ne e
    have hl : (r ++ [t]).length = r.length + 1 := by simp
    have hl0 : ¬ ((r ++ [t]).length = 0) := by omega
    repeat' (first
    | (first
    | ((with_reducible show IfK _ _ _ _); first | refine IfK.ff ?_ | refine IfK.tt ?_ | refine IfK.no (by first | rfl | assumption | exact nf (by assumption) | exact nt (by assumption) | ((try simp only [castN]); first | (simp [hl0]; done) | (simp [hl0]; omega))) ?_ | refine IfK.yes (by first | rfl | assumption | exact nf (by assumption) | exact nt (by assumption) | ((try simp only [castN]); first | (simp [hl0]; done) | (simp [hl0]; omega))) ?_)
    | ((with_reducible show NeedK _ _ _ _); refine NeedK.mk (by (try simp only [castN]); omega) ?_)
    | ((with_reducible show DrawK _ _ _ _); refine DrawK.mk (by kernel_rfl) (by kernel_rfl) (by kernel_rfl) ?_)
    | ((with_reducible show LtK _ _ _ _ _); refine LtK.mk r.length (by rw [hl]; push_cast; omega) (by rw [hl]; omega) ?_)
    | ((with_reducible show ElemK _ _ _ _ _); refine ElemK.mk (eOp t) (by rw [Nat.zero_add]; exact op_get (by simp)) ?_)) <;> ((with_reducible conv => whnf); (with_reducible conv => congr <;> reduce); repeat ((first | (with_reducible refine HaltK.mk ?_) | (with_reducible refine StopK.mk ?_)); (with_reducible conv => whnf); (with_reducible conv => congr <;> reduce)))
    | ((with_reducible show (_ ∧ _) ∧ _ ∧ _); refine ⟨⟨rfl, rfl⟩, ?_, ?_⟩ <;> (with_reducible conv => whnf) <;> repeat' (first | (with_reducible exact trivial) | (with_reducible refine And.intro ?_ ?_ <;> with_reducible conv => whnf))))
    all_goals first | exact ok_tab _ | exact ok_ops _ | rfl | (rw [top_snoc]) | (simp; done) | trace_state
end Go.Proofs.Audit
end
section
set_option linter.unusedSimpArgs false
set_option linter.unusedVariables false
namespace Go.Proofs.Audit
open Go.Am Go.RowKit Go.Lib
set_option maxRecDepth 100000
section
variable {tab : List (Nat × Nat)} {fz : Nat → Bool} {m : ML} {n : Nat}
theorem ok_ops2 {l : List OpM} {rows : List AV} (h : l.map oOp = rows) : ObjK (MF tab fz m n) (l.map oOp) rows := by subst h; exact ok_ops l
end
set_option maxHeartbeats 4000000 in
/-- pop -/
theorem f34_ok (r : List OpM) (t : OpM) (g : List OpM) (bc kp : TabI) (ov : Bool) (hs : r.length ≤ 100000) : FnOK Try.prog 34 [rB 1 (r ++ [t]).length 2 3 ov, rS (r ++ [t]) g, rT bc, rT kp] [.ptr 0 0 0] [rB 1 r.length 2 3 ov, rS r (t :: g), rT bc, rT kp] (.tup []) := by
  have hl : (r ++ [t]).length = r.length + 1 := by simp
  refine FnOK.startC (rvs := []) G G_good Try.func34 rfl Try.ntmps34 rfl rfl ?_; delta List.toArray; ((with_reducible conv => whnf); (with_reducible conv => congr <;> reduce); repeat ((first | (with_reducible refine HaltK.mk ?_) | (with_reducible refine StopK.mk ?_)); (with_reducible conv => whnf); (with_reducible conv => congr <;> reduce)))
  repeat' (first
    | (first
    | ((with_reducible show IfK _ _ _ _); first | refine IfK.ff ?_ | refine IfK.tt ?_ | refine IfK.no (by first | rfl | assumption | exact nf (by assumption) | exact nt (by assumption) | ((try simp only [castN]); first | (simp [hl]; done) | (simp [hl]; omega))) ?_ | refine IfK.yes (by first | rfl | assumption | exact nf (by assumption) | exact nt (by assumption) | ((try simp only [castN]); first | (simp [hl]; done) | (simp [hl]; omega))) ?_)
    | ((with_reducible show NeedK _ _ _ _); refine NeedK.mk (by (try simp only [castN]); omega) ?_)
    | ((with_reducible show DrawK _ _ _ _); refine DrawK.mk (by kernel_rfl) (by kernel_rfl) (by kernel_rfl) ?_)
    | ((with_reducible show CutK _ _ _ _ _ _); refine CutK.mk 0 r.length rfl (by rw [hl]; push_cast; omega) (by rw [hl]; omega) ?_)) <;> ((with_reducible conv => whnf); (with_reducible conv => congr <;> reduce); repeat ((first | (with_reducible refine HaltK.mk ?_) | (with_reducible refine StopK.mk ?_)); (with_reducible conv => whnf); (with_reducible conv => congr <;> reduce)))
    | ((with_reducible show (_ ∧ _) ∧ _ ∧ _); refine ⟨⟨rfl, rfl⟩, ?_, ?_⟩ <;> (with_reducible conv => whnf) <;> repeat' (first | (with_reducible exact trivial) | (with_reducible refine And.intro ?_ ?_ <;> with_reducible conv => whnf))))
  all_goals first | exact ok_tab _ | exact ok_ops2 (by simp) | rfl | trace_state
set_option maxHeartbeats 4000000 in
/-- push -/
theorem f35_ok (s g : List OpM) (x : OpM) (bc kp : TabI) (ov : Bool) (hs : s.length ≤ 100000) : FnOK Try.prog 35 [rB 1 s.length 2 3 ov, rS s g, rT bc, rT kp] [.ptr 0 0 0, eOp x] [rB 4 (s ++ [x]).length 2 3 ov, .dead, rT bc, rT kp, rS (s ++ [x]) []] (.tup []) := by
  obtain ⟨k, d, w⟩ := x
  refine FnOK.startB (rvs := []) G G_good Try.func35 rfl Try.ntmps35 rfl rfl ?_; delta List.toArray; ((with_reducible conv => whnf); (with_reducible conv => congr <;> reduce); repeat ((first | (with_reducible refine HaltK.mk ?_) | (with_reducible refine StopK.mk ?_)); (with_reducible conv => whnf); (with_reducible conv => congr <;> reduce)))
  repeat' (first
    | (first
    | ((with_reducible show IfK _ _ _ _); first | refine IfK.ff ?_ | refine IfK.tt ?_ | refine IfK.no (by first | rfl | assumption | exact nf (by assumption) | exact nt (by assumption) | ((try simp only [castN]); first | (simp []; done) | (simp []; omega))) ?_ | refine IfK.yes (by first | rfl | assumption | exact nf (by assumption) | exact nt (by assumption) | ((try simp only [castN]); first | (simp []; done) | (simp []; omega))) ?_)
    | ((with_reducible show NeedK _ _ _ _); refine NeedK.mk (by (try simp only [castN]); omega) ?_)
    | ((with_reducible show DrawK _ _ _ _); refine DrawK.mk (by kernel_rfl) (by kernel_rfl) (by kernel_rfl) ?_)
    | ((with_reducible show AppK _ _ _ _ _ _ _ _ _ _); refine ⟨s.map oOp, [eOp ⟨k, d, w⟩], by simp, by simp, Nat.le_refl _, rfl, rfl, by simp; omega, by simp; omega, ?_⟩)) <;> ((with_reducible conv => whnf); (with_reducible conv => congr <;> reduce); repeat ((first | (with_reducible refine HaltK.mk ?_) | (with_reducible refine StopK.mk ?_)); (with_reducible conv => whnf); (with_reducible conv => congr <;> reduce)))
    | ((with_reducible show (_ ∧ _) ∧ _ ∧ _); refine ⟨⟨rfl, rfl⟩, ?_, ?_⟩ <;> (with_reducible conv => whnf) <;> repeat' (first | (with_reducible exact trivial) | (with_reducible refine And.intro ?_ ?_ <;> with_reducible conv => whnf))))
  all_goals first | exact ok_tab _ | exact trivial | exact ok_ops2 (by simp [oOp]) | rfl | (simp; done) | trace_state
end Go.Proofs.Audit
end
section
set_option linter.unusedSimpArgs false
set_option linter.unusedVariables false
namespace Go.Proofs.Audit
open Go.Am Go.RowKit Go.Lib
set_option maxRecDepth 100000
@[reducible] def rA (a : List OpM) : MS := .live 3 (a.map oOp) false
theorem f33_at (a : List OpM) (n : Nat) (bc kp : TabI) (ov : Bool) (h : n ≤ a.length) (hs : n ≤ 100000) : FnOK Try.prog 33 [rB 1 n 2 3 ov, rA a, rT bc, rT kp] [.ptr 0 0 0] [rB 1 n 2 3 ov, rA a, rT bc, rT kp] (.tup [eOp (topM (a.take n)), eBool (!decide (a.take n = []))]) := by
  have hl : (a.take n).length = n := List.length_take_of_le h
  have := f33_ok (a.take n) (a.drop n) bc kp ov (by omega)
  unfold rS at this
  rw [List.take_append_drop, hl] at this
  exact this
theorem f34_at (a : List OpM) (n : Nat) (bc kp : TabI) (ov : Bool) (h : n + 1 ≤ a.length) (hs : n ≤ 100000) : FnOK Try.prog 34 [rB 1 (n + 1) 2 3 ov, rA a, rT bc, rT kp] [.ptr 0 0 0] [rB 1 n 2 3 ov, rA a, rT bc, rT kp] (.tup []) := by
  have hn : n < a.length := by omega
  have hl : (a.take n).length = n := List.length_take_of_le (by omega)
  have := f34_ok (a.take n) a[n] (a.drop (n + 1)) bc kp ov (by omega)
  unfold rS at this
  rw [List.length_append, hl] at this
  rw [show a.take n ++ [a[n]] ++ a.drop (n + 1) = a by rw [List.append_assoc]; show a.take n ++ (a[n] :: a.drop (n + 1)) = a; rw [← List.drop_eq_getElem_cons hn, List.take_append_drop],
    show a.take n ++ a[n] :: a.drop (n + 1) = a by rw [← List.drop_eq_getElem_cons hn, List.take_append_drop]] at this
  exact this
theorem f35_at (a : List OpM) (n : Nat) (x : OpM) (bc kp : TabI) (ov : Bool) (h : n ≤ a.length) (hs : n ≤ 100000) : FnOK Try.prog 35 [rB 1 n 2 3 ov, rA a, rT bc, rT kp] [.ptr 0 0 0, eOp x] [rB 4 (n + 1) 2 3 ov, .dead, rT bc, rT kp, rA (a.take n ++ [x])] (.tup []) := by
  have hl : (a.take n).length = n := List.length_take_of_le h
  have := f35_ok (a.take n) (a.drop n) x bc kp ov (by omega)
  unfold rS at this
  rw [List.take_append_drop, hl, List.append_nil, List.length_append, hl] at this
  exact this
/-- A mark's depth is an int. -/
def okD (x : MkM) : Prop := -9223372036854775808 ≤ x.depth ∧ x.depth ≤ 9223372036854775807
theorem take_snoc {a : List OpM} {n : Nat} (h : n < a.length) : a.take (n + 1) = a.take n ++ [a[n]] := by rw [List.take_add_one, List.getElem?_eq_getElem h]; rfl
def shN (d : Int) (a : List OpM) (n : Nat) : Nat := (shutM d (a.take n)).length
theorem shN_zero (d : Int) (a : List OpM) : shN d a 0 = 0 := rfl
theorem shN_stay {d : Int} {a : List OpM} {n : Nat} (h : n < a.length) (hs : staysM d a[n] = true) : shN d a (n + 1) = n + 1 := by
  unfold shN
  rw [take_snoc h, shut_snoc, if_pos hs]
  simp; omega
theorem shN_drop {d : Int} {a : List OpM} {n : Nat} (h : n < a.length) (hs : staysM d a[n] = false) : shN d a (n + 1) = shN d a n := by
  unfold shN
  rw [take_snoc h, shut_snoc, if_neg (by simp [hs])]
theorem shN_le (d : Int) (a : List OpM) (n : Nat) : shN d a n ≤ n := by
  unfold shN
  rw [shut_take]
  simp; omega
theorem shN_take {d : Int} {a : List OpM} {n : Nat} : a.take (shN d a n) = shutM d (a.take n) := by
  have h := shut_take d (a.take n)
  rw [List.take_take] at h
  have hle : (shutM d (a.take n)).length ≤ n := shN_le d a n
  rw [Nat.min_eq_left hle] at h
  exact h.symm
theorem take_nil {a : List OpM} {n : Nat} (h : n ≤ a.length) : a.take n = [] ↔ n = 0 := by
  constructor
  · intro e
    have := congrArg List.length e
    rw [List.length_take_of_le h] at this
    simpa using this
  · rintro rfl; rfl
theorem rB_ok {ov : Bool} {n m : Nat} (h : n = m) : rB 1 n 2 3 ov = rB 1 m 2 3 ov := by rw [h]
theorem f33_nil (a : List OpM) (bc kp : TabI) (ov : Bool) : FnOK Try.prog 33 [rB 1 0 2 3 ov, rA a, rT bc, rT kp] [.ptr 0 0 0] [rB 1 0 2 3 ov, rA a, rT bc, rT kp] (.tup [eOp ⟨0, 0, 0⟩, eBool false]) := f33_at a 0 bc kp ov (Nat.zero_le _) (by omega)
theorem f33_top (a : List OpM) (n : Nat) (x : OpM) (bc kp : TabI) (ov : Bool) (h : a[n]? = some x) (hs : n < 100000) : FnOK Try.prog 33 [rB 1 (n + 1) 2 3 ov, rA a, rT bc, rT kp] [.ptr 0 0 0] [rB 1 (n + 1) 2 3 ov, rA a, rT bc, rT kp] (.tup [eOp x, eBool true]) := by
  obtain ⟨hn, rfl⟩ := List.getElem?_eq_some_iff.1 h
  have := f33_at a (n + 1) bc kp ov (by omega) (by omega)
  rw [take_snoc hn, top_snoc, decide_eq_false (show ¬ a.take n ++ [a[n]] = [] from fun e => List.append_ne_nil_of_right_ne_nil _ (List.cons_ne_nil _ _) e)] at this
  exact this
section
variable {m : ML} {b s p q n n' : Nat} {ov ov' : Bool} {a a' : List OpM} {bc bc' kp kp' : TabI}
theorem ins_book (hb : lkM m b = rB s n p q ov) (hs : lkM m s = rA a) (hp : lkM m p = rT bc) (hq : lkM m q = rT kp) : InsM (tabR 4 0 [b, s, p, q]) [] m [rB 1 n 2 3 ov, rA a, rT bc, rT kp] [b, s, p, q] := by
  simp only [InsM, hb, hs, hp, hq]
  refine ⟨⟨trivial, .inr ⟨⟨⟨?_, ?_, ?_, rfl, trivial⟩, trivial⟩, rfl⟩⟩, ⟨trivial, .inl ⟨rfl, noRef_ops _⟩⟩, ⟨trivial, .inl ⟨rfl, noRef_tab _⟩⟩, ⟨trivial, .inl ⟨rfl, noRef_tab _⟩⟩, trivial⟩
  all_goals (simp [MF, tabR, lkN, Nat.beq_refl])
theorem news_book : NewsM [b, s, p, q] [rB 1 n' 2 3 ov', rA a', rT bc', rT kp'] [rB s n' p q ov', rA a', rT bc', rT kp'] :=
  ⟨⟨rfl, .inr ⟨rfl, rfl, rfl⟩⟩, ⟨rfl, .inl ⟨rfl, noRef_ops _⟩⟩, ⟨rfl, .inl ⟨rfl, noRef_tab _⟩⟩, ⟨rfl, .inl ⟨rfl, noRef_tab _⟩⟩, trivial⟩
end
set_option maxHeartbeats 4000000 in
/-- shut -/
theorem f29_ok (a : List OpM) (n : Nat) (x : MkM) (bc kp : TabI) (ov : Bool) (h : n ≤ a.length) (hs : n ≤ 100000) (hx : okD x) (h0 : 0 ≤ x.depth) : FnOK Try.prog 29 [rB 1 n 2 3 ov, rA a, rT bc, rT kp] [.ptr 0 0 0, eMk x] [rB 1 (shN (leastM x) a n) 2 3 ov, rA a, rT bc, rT kp] (.tup []) := by
  obtain ⟨o, ho⟩ : ∃ o, opensK x.kind = o := ⟨_, rfl⟩
  have hle : leastM x = if o = true then x.depth - 1 else x.depth := by unfold leastM; rw [ho]
  obtain ⟨kd, dp, nd, wt, er, nm, h1, h2, ol, nw, fr, to, on⟩ := x
  have hx1 : -9223372036854775808 ≤ dp ∧ dp ≤ 9223372036854775807 := hx
  have h0' : 0 ≤ dp := h0
  simp only at ho hle
  refine FnOK.startC (rvs := []) G G_good Try.func29 rfl Try.ntmps29 rfl rfl ?_; delta List.toArray; ((with_reducible conv => whnf); (with_reducible conv => congr <;> reduce); repeat ((first | (with_reducible refine HaltK.mk ?_) | (with_reducible refine StopK.mk ?_)); (with_reducible conv => whnf); (with_reducible conv => congr <;> reduce)))
  refine CallK.lit [] (f32_at ho) c32 ⟨rfl, trivial⟩ rfl rfl ?_; ((with_reducible conv => whnf); (with_reducible conv => congr <;> reduce); repeat ((first | (with_reducible refine HaltK.mk ?_) | (with_reducible refine StopK.mk ?_)); (with_reducible conv => whnf); (with_reducible conv => congr <;> reduce)))
  cases o with
  | true =>
    rw [if_pos rfl] at hle
    rw [hle]
    refine IfK.tt ?_; ((with_reducible conv => whnf); (with_reducible conv => congr <;> reduce); repeat ((first | (with_reducible refine HaltK.mk ?_) | (with_reducible refine StopK.mk ?_)); (with_reducible conv => whnf); (with_reducible conv => congr <;> reduce)))
    refine NeedK.mk (by (try simp only [castN]); omega) ?_; ((with_reducible conv => whnf); (with_reducible conv => congr <;> reduce); repeat ((first | (with_reducible refine HaltK.mk ?_) | (with_reducible refine StopK.mk ?_)); (with_reducible conv => whnf); (with_reducible conv => congr <;> reduce)))
    refine LoopK.use G G_good (fun (k : Nat) => [(0, .ptr 0 0 0), (3, .ptr 30 0 0), (4, eInt (dp - 1))])
      (fun k => [(0, rB 1 k 2 3 ov), (1, rA a), (2, rT bc), (3, rT kp), (30, .live 13 [eMk ⟨kd, dp, nd, wt, er, nm, h1, h2, ol, nw, fr, to, on⟩] false)])
      (fun k => k ≤ n ∧ shN (dp - 1) a k = shN (dp - 1) a n) (fun k => k) n ⟨Nat.le_refl _, rfl⟩
      ⟨⟨rfl, rfl⟩, ⟨⟨rfl, rfl⟩, ⟨rfl, rfl⟩, rfl, trivial⟩, ⟨⟨⟨rfl, rfl⟩, trivial, trivial, rfl, trivial⟩, trivial⟩, ok_ops _, ok_tab _, ok_tab _, ⟨⟨rfl, rfl, rfl, rfl, rfl, rfl, rfl, rfl, rfl, rfl, rfl, rfl, rfl, trivial⟩, trivial⟩, trivial⟩ ?_
    intro k ⟨hk, hsh⟩
    ((with_reducible conv => whnf); (with_reducible conv => congr <;> reduce); repeat ((first | (with_reducible refine HaltK.mk ?_) | (with_reducible refine StopK.mk ?_)); (with_reducible conv => whnf); (with_reducible conv => congr <;> reduce)))
    rcases k with _ | k
    · refine CallK.lend (news := [rB 1 0 2 3 ov, rA a, rT bc, rT kp]) [0, 1, 2, 3] [] (f33_nil a bc kp ov) c33 ⟨⟨rfl, rfl⟩, trivial⟩ (ins_book rfl rfl rfl rfl) rfl ⟨⟨rfl, rfl⟩, rfl⟩ rfl news_book rfl rfl ?_
      ((with_reducible conv => whnf); (with_reducible conv => congr <;> reduce); repeat ((first | (with_reducible refine HaltK.mk ?_) | (with_reducible refine StopK.mk ?_)); (with_reducible conv => whnf); (with_reducible conv => congr <;> reduce)))
      repeat' (first
    | (first
    | ((with_reducible show IfK _ _ _ _); first | refine IfK.ff ?_ | refine IfK.tt ?_ | refine IfK.no (by first | rfl | assumption | exact nf (by assumption) | exact nt (by assumption) | ((try simp only [castN]); first | (simp []; done) | (simp []; omega))) ?_ | refine IfK.yes (by first | rfl | assumption | exact nf (by assumption) | exact nt (by assumption) | ((try simp only [castN]); first | (simp []; done) | (simp []; omega))) ?_)
    | ((with_reducible show NeedK _ _ _ _); refine NeedK.mk (by (try simp only [castN]); omega) ?_)
    | ((with_reducible show DrawK _ _ _ _); refine DrawK.mk (by kernel_rfl) (by kernel_rfl) (by kernel_rfl) ?_)) <;> ((with_reducible conv => whnf); (with_reducible conv => congr <;> reduce); repeat ((first | (with_reducible refine HaltK.mk ?_) | (with_reducible refine StopK.mk ?_)); (with_reducible conv => whnf); (with_reducible conv => congr <;> reduce)))
    | ((with_reducible show (_ ∧ _) ∧ _ ∧ _); refine ⟨⟨rfl, rfl⟩, ?_, ?_⟩ <;> (with_reducible conv => whnf) <;> repeat' (first | (with_reducible exact trivial) | (with_reducible refine And.intro ?_ ?_ <;> with_reducible conv => whnf))))
      all_goals first | exact ok_tab _ | exact ok_ops _ | exact hsh.symm | trace_state
    · have hka : k < a.length := by omega
      obtain ⟨⟨tk, td, tw⟩, ht⟩ : ∃ t, a[k]? = some t := ⟨_, List.getElem?_eq_getElem hka⟩
      have ht' : a[k] = ⟨tk, td, tw⟩ := (List.getElem?_eq_some_iff.1 ht).2
      refine CallK.lend (news := [rB 1 (k + 1) 2 3 ov, rA a, rT bc, rT kp]) [0, 1, 2, 3] [] (f33_top a k _ bc kp ov ht (by omega)) c33 ⟨⟨rfl, rfl⟩, trivial⟩ (ins_book rfl rfl rfl rfl) rfl ⟨⟨rfl, rfl⟩, rfl⟩ rfl news_book rfl rfl ?_
      ((with_reducible conv => whnf); (with_reducible conv => congr <;> reduce); repeat ((first | (with_reducible refine HaltK.mk ?_) | (with_reducible refine StopK.mk ?_)); (with_reducible conv => whnf); (with_reducible conv => congr <;> reduce)))
      cases hst : staysM (dp - 1) ⟨tk, td, tw⟩ with
      | true =>
        have e := shN_stay hka (d := dp - 1) (by rw [ht']; exact hst)
        rw [hsh] at e
        unfold staysM at hst
        by_cases e3 : tk = 3
        · repeat' (first
    | (first
    | ((with_reducible show IfK _ _ _ _); first | refine IfK.ff ?_ | refine IfK.tt ?_ | refine IfK.no (by first | rfl | assumption | exact nf (by assumption) | exact nt (by assumption) | ((try simp only [castN]); first | (simp [e3]; done) | (simp [e3]; omega))) ?_ | refine IfK.yes (by first | rfl | assumption | exact nf (by assumption) | exact nt (by assumption) | ((try simp only [castN]); first | (simp [e3]; done) | (simp [e3]; omega))) ?_)
    | ((with_reducible show NeedK _ _ _ _); refine NeedK.mk (by (try simp only [castN]); omega) ?_)
    | ((with_reducible show DrawK _ _ _ _); refine DrawK.mk (by kernel_rfl) (by kernel_rfl) (by kernel_rfl) ?_)) <;> ((with_reducible conv => whnf); (with_reducible conv => congr <;> reduce); repeat ((first | (with_reducible refine HaltK.mk ?_) | (with_reducible refine StopK.mk ?_)); (with_reducible conv => whnf); (with_reducible conv => congr <;> reduce)))
    | ((with_reducible show (_ ∧ _) ∧ _ ∧ _); refine ⟨⟨rfl, rfl⟩, ?_, ?_⟩ <;> (with_reducible conv => whnf) <;> repeat' (first | (with_reducible exact trivial) | (with_reducible refine And.intro ?_ ?_ <;> with_reducible conv => whnf))))
          all_goals first | exact ok_tab _ | exact ok_ops _ | exact e | trace_state
        · have e4 : td ≤ (dp - 1) := by simpa [e3] using hst
          repeat' (first
    | (first
    | ((with_reducible show IfK _ _ _ _); first | refine IfK.ff ?_ | refine IfK.tt ?_ | refine IfK.no (by first | rfl | assumption | exact nf (by assumption) | exact nt (by assumption) | ((try simp only [castN]); first | (simp [e3, e4]; done) | (simp [e3, e4]; omega))) ?_ | refine IfK.yes (by first | rfl | assumption | exact nf (by assumption) | exact nt (by assumption) | ((try simp only [castN]); first | (simp [e3, e4]; done) | (simp [e3, e4]; omega))) ?_)
    | ((with_reducible show NeedK _ _ _ _); refine NeedK.mk (by (try simp only [castN]); omega) ?_)
    | ((with_reducible show DrawK _ _ _ _); refine DrawK.mk (by kernel_rfl) (by kernel_rfl) (by kernel_rfl) ?_)) <;> ((with_reducible conv => whnf); (with_reducible conv => congr <;> reduce); repeat ((first | (with_reducible refine HaltK.mk ?_) | (with_reducible refine StopK.mk ?_)); (with_reducible conv => whnf); (with_reducible conv => congr <;> reduce)))
    | ((with_reducible show (_ ∧ _) ∧ _ ∧ _); refine ⟨⟨rfl, rfl⟩, ?_, ?_⟩ <;> (with_reducible conv => whnf) <;> repeat' (first | (with_reducible exact trivial) | (with_reducible refine And.intro ?_ ?_ <;> with_reducible conv => whnf))))
          all_goals first | exact ok_tab _ | exact ok_ops _ | exact e | trace_state
      | false =>
        have e := shN_drop hka (d := dp - 1) (by rw [ht']; exact hst)
        rw [hsh] at e
        unfold staysM at hst
        simp only [Bool.or_eq_false_iff, decide_eq_false_iff_not] at hst
        have e3 := eq_false hst.1
        have e4 := eq_false hst.2
        repeat' (first
    | (first
    | ((with_reducible show IfK _ _ _ _); first | refine IfK.ff ?_ | refine IfK.tt ?_ | refine IfK.no (by first | rfl | assumption | exact nf (by assumption) | exact nt (by assumption) | ((try simp only [castN]); first | (simp [e3, e4]; done) | (simp [e3, e4]; omega))) ?_ | refine IfK.yes (by first | rfl | assumption | exact nf (by assumption) | exact nt (by assumption) | ((try simp only [castN]); first | (simp [e3, e4]; done) | (simp [e3, e4]; omega))) ?_)
    | ((with_reducible show NeedK _ _ _ _); refine NeedK.mk (by (try simp only [castN]); omega) ?_)
    | ((with_reducible show DrawK _ _ _ _); refine DrawK.mk (by kernel_rfl) (by kernel_rfl) (by kernel_rfl) ?_)
    | ((with_reducible show CallK _ _ 34 _ _ _ _); refine CallK.lend (news := [rB 1 k 2 3 ov, rA a, rT bc, rT kp]) [0, 1, 2, 3] [] (f34_at a k bc kp ov (by omega) (by omega)) c34 ⟨⟨rfl, rfl⟩, trivial⟩ (ins_book rfl rfl rfl rfl) rfl ⟨⟨rfl, rfl⟩, rfl⟩ rfl news_book rfl rfl ?_)
    | ((with_reducible show NextK _ _); refine NextK.mk k ⟨by omega, e.symm⟩ (by omega) ⟨⟨rfl, rfl⟩, ⟨⟨rfl, rfl⟩, ⟨rfl, rfl⟩, rfl, trivial⟩, ⟨⟨⟨rfl, rfl⟩, trivial, trivial, rfl, trivial⟩, trivial⟩, ok_ops _, ok_tab _, ok_tab _, ⟨⟨rfl, rfl, rfl, rfl, rfl, rfl, rfl, rfl, rfl, rfl, rfl, rfl, rfl, trivial⟩, trivial⟩, trivial⟩)) <;> ((with_reducible conv => whnf); (with_reducible conv => congr <;> reduce); repeat ((first | (with_reducible refine HaltK.mk ?_) | (with_reducible refine StopK.mk ?_)); (with_reducible conv => whnf); (with_reducible conv => congr <;> reduce)))
    | ((with_reducible show (_ ∧ _) ∧ _ ∧ _); refine ⟨⟨rfl, rfl⟩, ?_, ?_⟩ <;> (with_reducible conv => whnf) <;> repeat' (first | (with_reducible exact trivial) | (with_reducible refine And.intro ?_ ?_ <;> with_reducible conv => whnf))))
  | false =>
    rw [if_neg (by simp)] at hle
    rw [hle]
    refine IfK.ff ?_; ((with_reducible conv => whnf); (with_reducible conv => congr <;> reduce); repeat ((first | (with_reducible refine HaltK.mk ?_) | (with_reducible refine StopK.mk ?_)); (with_reducible conv => whnf); (with_reducible conv => congr <;> reduce)))
    refine LoopK.use G G_good (fun (k : Nat) => [(0, .ptr 0 0 0), (3, .ptr 30 0 0), (4, eInt (dp))])
      (fun k => [(0, rB 1 k 2 3 ov), (1, rA a), (2, rT bc), (3, rT kp), (30, .live 13 [eMk ⟨kd, dp, nd, wt, er, nm, h1, h2, ol, nw, fr, to, on⟩] false)])
      (fun k => k ≤ n ∧ shN (dp) a k = shN (dp) a n) (fun k => k) n ⟨Nat.le_refl _, rfl⟩
      ⟨⟨rfl, rfl⟩, ⟨⟨rfl, rfl⟩, ⟨rfl, rfl⟩, rfl, trivial⟩, ⟨⟨⟨rfl, rfl⟩, trivial, trivial, rfl, trivial⟩, trivial⟩, ok_ops _, ok_tab _, ok_tab _, ⟨⟨rfl, rfl, rfl, rfl, rfl, rfl, rfl, rfl, rfl, rfl, rfl, rfl, rfl, trivial⟩, trivial⟩, trivial⟩ ?_
    intro k ⟨hk, hsh⟩
    ((with_reducible conv => whnf); (with_reducible conv => congr <;> reduce); repeat ((first | (with_reducible refine HaltK.mk ?_) | (with_reducible refine StopK.mk ?_)); (with_reducible conv => whnf); (with_reducible conv => congr <;> reduce)))
    rcases k with _ | k
    · refine CallK.lend (news := [rB 1 0 2 3 ov, rA a, rT bc, rT kp]) [0, 1, 2, 3] [] (f33_nil a bc kp ov) c33 ⟨⟨rfl, rfl⟩, trivial⟩ (ins_book rfl rfl rfl rfl) rfl ⟨⟨rfl, rfl⟩, rfl⟩ rfl news_book rfl rfl ?_
      ((with_reducible conv => whnf); (with_reducible conv => congr <;> reduce); repeat ((first | (with_reducible refine HaltK.mk ?_) | (with_reducible refine StopK.mk ?_)); (with_reducible conv => whnf); (with_reducible conv => congr <;> reduce)))
      repeat' (first
    | (first
    | ((with_reducible show IfK _ _ _ _); first | refine IfK.ff ?_ | refine IfK.tt ?_ | refine IfK.no (by first | rfl | assumption | exact nf (by assumption) | exact nt (by assumption) | ((try simp only [castN]); first | (simp []; done) | (simp []; omega))) ?_ | refine IfK.yes (by first | rfl | assumption | exact nf (by assumption) | exact nt (by assumption) | ((try simp only [castN]); first | (simp []; done) | (simp []; omega))) ?_)
    | ((with_reducible show NeedK _ _ _ _); refine NeedK.mk (by (try simp only [castN]); omega) ?_)
    | ((with_reducible show DrawK _ _ _ _); refine DrawK.mk (by kernel_rfl) (by kernel_rfl) (by kernel_rfl) ?_)) <;> ((with_reducible conv => whnf); (with_reducible conv => congr <;> reduce); repeat ((first | (with_reducible refine HaltK.mk ?_) | (with_reducible refine StopK.mk ?_)); (with_reducible conv => whnf); (with_reducible conv => congr <;> reduce)))
    | ((with_reducible show (_ ∧ _) ∧ _ ∧ _); refine ⟨⟨rfl, rfl⟩, ?_, ?_⟩ <;> (with_reducible conv => whnf) <;> repeat' (first | (with_reducible exact trivial) | (with_reducible refine And.intro ?_ ?_ <;> with_reducible conv => whnf))))
      all_goals first | exact ok_tab _ | exact ok_ops _ | exact hsh.symm | trace_state
    · have hka : k < a.length := by omega
      obtain ⟨⟨tk, td, tw⟩, ht⟩ : ∃ t, a[k]? = some t := ⟨_, List.getElem?_eq_getElem hka⟩
      have ht' : a[k] = ⟨tk, td, tw⟩ := (List.getElem?_eq_some_iff.1 ht).2
      refine CallK.lend (news := [rB 1 (k + 1) 2 3 ov, rA a, rT bc, rT kp]) [0, 1, 2, 3] [] (f33_top a k _ bc kp ov ht (by omega)) c33 ⟨⟨rfl, rfl⟩, trivial⟩ (ins_book rfl rfl rfl rfl) rfl ⟨⟨rfl, rfl⟩, rfl⟩ rfl news_book rfl rfl ?_
      ((with_reducible conv => whnf); (with_reducible conv => congr <;> reduce); repeat ((first | (with_reducible refine HaltK.mk ?_) | (with_reducible refine StopK.mk ?_)); (with_reducible conv => whnf); (with_reducible conv => congr <;> reduce)))
      cases hst : staysM (dp) ⟨tk, td, tw⟩ with
      | true =>
        have e := shN_stay hka (d := dp) (by rw [ht']; exact hst)
        rw [hsh] at e
        unfold staysM at hst
        by_cases e3 : tk = 3
        · repeat' (first
    | (first
    | ((with_reducible show IfK _ _ _ _); first | refine IfK.ff ?_ | refine IfK.tt ?_ | refine IfK.no (by first | rfl | assumption | exact nf (by assumption) | exact nt (by assumption) | ((try simp only [castN]); first | (simp [e3]; done) | (simp [e3]; omega))) ?_ | refine IfK.yes (by first | rfl | assumption | exact nf (by assumption) | exact nt (by assumption) | ((try simp only [castN]); first | (simp [e3]; done) | (simp [e3]; omega))) ?_)
    | ((with_reducible show NeedK _ _ _ _); refine NeedK.mk (by (try simp only [castN]); omega) ?_)
    | ((with_reducible show DrawK _ _ _ _); refine DrawK.mk (by kernel_rfl) (by kernel_rfl) (by kernel_rfl) ?_)) <;> ((with_reducible conv => whnf); (with_reducible conv => congr <;> reduce); repeat ((first | (with_reducible refine HaltK.mk ?_) | (with_reducible refine StopK.mk ?_)); (with_reducible conv => whnf); (with_reducible conv => congr <;> reduce)))
    | ((with_reducible show (_ ∧ _) ∧ _ ∧ _); refine ⟨⟨rfl, rfl⟩, ?_, ?_⟩ <;> (with_reducible conv => whnf) <;> repeat' (first | (with_reducible exact trivial) | (with_reducible refine And.intro ?_ ?_ <;> with_reducible conv => whnf))))
          all_goals first | exact ok_tab _ | exact ok_ops _ | exact e | trace_state
        · have e4 : td ≤ (dp) := by simpa [e3] using hst
          repeat' (first
    | (first
    | ((with_reducible show IfK _ _ _ _); first | refine IfK.ff ?_ | refine IfK.tt ?_ | refine IfK.no (by first | rfl | assumption | exact nf (by assumption) | exact nt (by assumption) | ((try simp only [castN]); first | (simp [e3, e4]; done) | (simp [e3, e4]; omega))) ?_ | refine IfK.yes (by first | rfl | assumption | exact nf (by assumption) | exact nt (by assumption) | ((try simp only [castN]); first | (simp [e3, e4]; done) | (simp [e3, e4]; omega))) ?_)
    | ((with_reducible show NeedK _ _ _ _); refine NeedK.mk (by (try simp only [castN]); omega) ?_)
    | ((with_reducible show DrawK _ _ _ _); refine DrawK.mk (by kernel_rfl) (by kernel_rfl) (by kernel_rfl) ?_)) <;> ((with_reducible conv => whnf); (with_reducible conv => congr <;> reduce); repeat ((first | (with_reducible refine HaltK.mk ?_) | (with_reducible refine StopK.mk ?_)); (with_reducible conv => whnf); (with_reducible conv => congr <;> reduce)))
    | ((with_reducible show (_ ∧ _) ∧ _ ∧ _); refine ⟨⟨rfl, rfl⟩, ?_, ?_⟩ <;> (with_reducible conv => whnf) <;> repeat' (first | (with_reducible exact trivial) | (with_reducible refine And.intro ?_ ?_ <;> with_reducible conv => whnf))))
          all_goals first | exact ok_tab _ | exact ok_ops _ | exact e | trace_state
      | false =>
        have e := shN_drop hka (d := dp) (by rw [ht']; exact hst)
        rw [hsh] at e
        unfold staysM at hst
        simp only [Bool.or_eq_false_iff, decide_eq_false_iff_not] at hst
        have e3 := eq_false hst.1
        have e4 := eq_false hst.2
        repeat' (first
    | (first
    | ((with_reducible show IfK _ _ _ _); first | refine IfK.ff ?_ | refine IfK.tt ?_ | refine IfK.no (by first | rfl | assumption | exact nf (by assumption) | exact nt (by assumption) | ((try simp only [castN]); first | (simp [e3, e4]; done) | (simp [e3, e4]; omega))) ?_ | refine IfK.yes (by first | rfl | assumption | exact nf (by assumption) | exact nt (by assumption) | ((try simp only [castN]); first | (simp [e3, e4]; done) | (simp [e3, e4]; omega))) ?_)
    | ((with_reducible show NeedK _ _ _ _); refine NeedK.mk (by (try simp only [castN]); omega) ?_)
    | ((with_reducible show DrawK _ _ _ _); refine DrawK.mk (by kernel_rfl) (by kernel_rfl) (by kernel_rfl) ?_)
    | ((with_reducible show CallK _ _ 34 _ _ _ _); refine CallK.lend (news := [rB 1 k 2 3 ov, rA a, rT bc, rT kp]) [0, 1, 2, 3] [] (f34_at a k bc kp ov (by omega) (by omega)) c34 ⟨⟨rfl, rfl⟩, trivial⟩ (ins_book rfl rfl rfl rfl) rfl ⟨⟨rfl, rfl⟩, rfl⟩ rfl news_book rfl rfl ?_)
    | ((with_reducible show NextK _ _); refine NextK.mk k ⟨by omega, e.symm⟩ (by omega) ⟨⟨rfl, rfl⟩, ⟨⟨rfl, rfl⟩, ⟨rfl, rfl⟩, rfl, trivial⟩, ⟨⟨⟨rfl, rfl⟩, trivial, trivial, rfl, trivial⟩, trivial⟩, ok_ops _, ok_tab _, ok_tab _, ⟨⟨rfl, rfl, rfl, rfl, rfl, rfl, rfl, rfl, rfl, rfl, rfl, rfl, rfl, trivial⟩, trivial⟩, trivial⟩)) <;> ((with_reducible conv => whnf); (with_reducible conv => congr <;> reduce); repeat ((first | (with_reducible refine HaltK.mk ?_) | (with_reducible refine StopK.mk ?_)); (with_reducible conv => whnf); (with_reducible conv => congr <;> reduce)))
    | ((with_reducible show (_ ∧ _) ∧ _ ∧ _); refine ⟨⟨rfl, rfl⟩, ?_, ?_⟩ <;> (with_reducible conv => whnf) <;> repeat' (first | (with_reducible exact trivial) | (with_reducible refine And.intro ?_ ?_ <;> with_reducible conv => whnf))))
end Go.Proofs.Audit
end
section
set_option linter.unusedSimpArgs false
set_option linter.unusedVariables false
namespace Go.Proofs.Audit
open Go.Am Go.RowKit Go.Lib
set_option maxRecDepth 100000
theorem op_eq (a b : OpM) (w : World) : (Op.equalIn 10000 55 (.agg #[.int .i64 a.kind, .int .i64 a.depth, .int .i64 a.what]) (.agg #[.int .i64 b.kind, .int .i64 b.depth, .int .i64 b.what])).run Try.prog w = .ok (decide (a.kind = b.kind) && decide (a.depth = b.depth) && decide (a.what = b.what)) w := by
  have hS : Try.prog.underlying 55 = some (.struct (Try.prog.fieldsOf 55)) := by kernel_rfl
  have hp : Try.prog.stoodInHeld 55 = false := by kernel_rfl
  have u3 := Try.underlying3
  have a3 := Try.isAgg3
  have z3 := Try.sizeOf3
  rw [show (10000 : Nat) = 9999 + 1 from rfl, run_equalIn_agg w 9999 55 _ _ hS hp]
  simp only [Program.fieldsOf, Try.underlying55]
  go_simp
  clear hS hp u3 a3 z3
  by_cases h1 : a.kind = b.kind <;> by_cases h2 : a.depth = b.depth <;> by_cases h3 : a.what = b.what <;> simp [h1, h2, h3]
theorem opEq_iff (a b : OpM) : (decide (a.kind = b.kind) && decide (a.depth = b.depth) && decide (a.what = b.what)) = decide (a = b) := by
  rw [Bool.eq_iff_iff, decide_eq_true_eq]
  simp only [Bool.and_eq_true, decide_eq_true_eq]
  constructor
  · rintro ⟨⟨h1, h2⟩, h3⟩
    cases a; cases b
    simp only at *
    rw [h1, h2, h3]
  · rintro rfl; simp
theorem op_neq (a b : OpM) (y z : Operand) (w : World) : ((do eqGuard .neq 55 y z (.agg #[.int .i64 a.kind, .int .i64 a.depth, .int .i64 a.what]) (.agg #[.int .i64 b.kind, .int .i64 b.depth, .int .i64 b.what]); binOp .neq 55 (.agg #[.int .i64 a.kind, .int .i64 a.depth, .int .i64 a.what]) (.agg #[.int .i64 b.kind, .int .i64 b.depth, .int .i64 b.what]) : Sem Value)).run Try.prog w = .ok (.bool (!decide (a = b))) w := by
  rw [Sem.run_bind, run_eqGuard_agg w .neq 55 y z _ _ (by kernel_rfl), Result.andThen_ok, run_neq_struct, op_eq, opEq_iff]; rfl
theorem f33_gen {a : List OpM} {n : Nat} {t : OpM} {b : Bool} (bc kp : TabI) (ov : Bool) (h : n ≤ a.length) (hs : n ≤ 100000) (ht : topM (a.take n) = t) (hb : (!decide (a.take n = [])) = b) : FnOK Try.prog 33 [rB 1 n 2 3 ov, rA a, rT bc, rT kp] [.ptr 0 0 0] [rB 1 n 2 3 ov, rA a, rT bc, rT kp] (.tup [eOp t, eBool b]) := by
  subst ht; subst hb; exact f33_at a n bc kp ov h hs
section
variable {m : ML} {b s p q e n n' : Nat} {ov ov' : Bool} {a a' : List OpM} {bc bc' kp kp' : TabI}
theorem ins_push (hb : lkM m b = rB s n p q ov) (hs : lkM m s = rA a) (hp : lkM m p = rT bc) (hq : lkM m q = rT kp) : InsM (tabR 4 0 [b, s, p, q, e]) [] m [rB 1 n 2 3 ov, rA a, rT bc, rT kp] [b, s, p, q, e] := ins_book hb hs hp hq
theorem news_push : NewsM [b, s, p, q, e] [rB 4 n' 2 3 ov', .dead, rT bc', rT kp', rA a'] [rB e n' p q ov', .dead, rT bc', rT kp', rA a'] :=
  ⟨⟨rfl, .inr ⟨rfl, rfl, rfl⟩⟩, ⟨rfl, .inl ⟨rfl, noRef_tab _⟩⟩, ⟨rfl, .inl ⟨rfl, noRef_tab _⟩⟩, ⟨rfl, .inl ⟨rfl, noRef_ops _⟩⟩, trivial⟩
end
set_option maxHeartbeats 4000000 in
/-- stands, of a mark that opens -/
theorem f30_push (a : List OpM) (n : Nat) (x : MkM) (bc kp : TabI) (ov : Bool) (h : n ≤ a.length) (hs : n ≤ 100000) (hx : okD x) (h0 : 0 ≤ x.depth) (ho : opensK x.kind = true) :
    FnOK Try.prog 30 [rB 1 n 2 3 ov, rA a, rT bc, rT kp] [.ptr 0 0 0, eMk x] [rB 4 (n + 1) 2 3 ov, .dead, rT bc, rT kp, rA (a.take n ++ [opOf x])] (eBool (decide ((topM (a.take n)).depth = x.depth - 1))) := by
  obtain ⟨kd, dp, nd, wt, er, nm, h1, h2, ol, nw, fr, to, on⟩ := x
  have hx1 : -9223372036854775808 ≤ dp ∧ dp ≤ 9223372036854775807 := hx
  have h0' : 0 ≤ dp := h0
  obtain ⟨⟨tk, td, tw⟩, ht⟩ : ∃ t, topM (a.take n) = t := ⟨_, rfl⟩
  obtain ⟨b, hb⟩ : ∃ b, (!decide (a.take n = [])) = b := ⟨_, rfl⟩
  rw [ht]
  have hk : kd = 3 ∨ kd = 9 ∨ kd = 6 := (opens_iff _).1 ho
  refine FnOK.startB (rvs := [.tmp 4]) G G_good Try.func30 rfl Try.ntmps30 rfl rfl ?_; delta List.toArray; ((with_reducible conv => whnf); (with_reducible conv => congr <;> reduce); repeat ((first | (with_reducible refine HaltK.mk ?_) | (with_reducible refine StopK.mk ?_)); (with_reducible conv => whnf); (with_reducible conv => congr <;> reduce)))
  rcases hk with e | e | e
  all_goals (repeat' (first
    | (first
    | ((with_reducible show IfK _ _ _ _); first | refine IfK.ff ?_ | refine IfK.tt ?_ | refine IfK.no (by first | rfl | assumption | exact nf (by assumption) | exact nt (by assumption) | ((try simp only [castN]); first | (simp [e]; done) | (simp [e]; omega))) ?_ | refine IfK.yes (by first | rfl | assumption | exact nf (by assumption) | exact nt (by assumption) | ((try simp only [castN]); first | (simp [e]; done) | (simp [e]; omega))) ?_)
    | ((with_reducible show NeedK _ _ _ _); refine NeedK.mk (by (try simp only [castN]); omega) ?_)
    | ((with_reducible show DrawK _ _ _ _); refine DrawK.mk (by kernel_rfl) (by kernel_rfl) (by kernel_rfl) ?_)
    | ((with_reducible show CallK _ _ 33 _ _ _ _); refine CallK.lend (news := [rB 1 n 2 3 ov, rA a, rT bc, rT kp]) [0, 1, 2, 3] [] (f33_gen bc kp ov h hs ht hb) c33 ⟨⟨rfl, rfl⟩, trivial⟩ (ins_book rfl rfl rfl rfl) rfl ⟨⟨rfl, rfl⟩, rfl⟩ rfl news_book rfl rfl ?_)
    | ((with_reducible show CallK _ _ 35 _ _ _ _); refine CallK.lend (news := [rB 301 (n + 1) 2 3 ov, .dead, rT bc, rT kp, rA (a.take n ++ [⟨kd, dp, wt⟩])]) [0, 1, 2, 3, 301] [] (f35_at a n ⟨kd, dp, wt⟩ bc kp ov h hs) c35 ⟨⟨rfl, rfl⟩, ⟨rfl, rfl, rfl, trivial⟩, trivial⟩ (ins_push rfl rfl rfl rfl) rfl ⟨⟨rfl, rfl⟩, rfl⟩ rfl news_push rfl rfl ?_)) <;> ((with_reducible conv => whnf); (with_reducible conv => congr <;> reduce); repeat ((first | (with_reducible refine HaltK.mk ?_) | (with_reducible refine StopK.mk ?_)); (with_reducible conv => whnf); (with_reducible conv => congr <;> reduce)))
    | ((with_reducible show (_ ∧ _) ∧ _ ∧ _); refine ⟨⟨rfl, rfl⟩, ?_, ?_⟩ <;> (with_reducible conv => whnf) <;> repeat' (first | (with_reducible exact trivial) | (with_reducible refine And.intro ?_ ?_ <;> with_reducible conv => whnf)))))
  all_goals first | exact ok_tab _ | exact ok_ops _ | exact trivial | rfl | trace_state
set_option maxHeartbeats 4000000 in
/-- stands, of any other mark -/
theorem f30_stay (a : List OpM) (n : Nat) (x : MkM) (bc kp : TabI) (ov : Bool) (h : n ≤ a.length) (hs : n ≤ 100000) (hx : okD x) (h0 : 0 ≤ x.depth) (ho : opensK x.kind = false) :
    FnOK Try.prog 30 [rB 1 n 2 3 ov, rA a, rT bc, rT kp] [.ptr 0 0 0, eMk x] [rB 1 (standsM (a.take n) x).1.length 2 3 ov, rA a, rT bc, rT kp] (eBool (standsM (a.take n) x).2) := by
  have hl : (a.take n).length = n := List.length_take_of_le h
  obtain ⟨r, hr⟩ : ∃ r, standsM (a.take n) x = r := ⟨_, rfl⟩
  rw [hr]
  obtain ⟨kd, dp, nd, wt, er, nm, h1, h2, ol, nw, fr, to, on⟩ := x
  have hx1 : -9223372036854775808 ≤ dp ∧ dp ≤ 9223372036854775807 := hx
  have h0' : 0 ≤ dp := h0
  obtain ⟨⟨tk, td, tw⟩, ht⟩ : ∃ t, topM (a.take n) = t := ⟨_, rfl⟩
  obtain ⟨b, hb⟩ : ∃ b, (!decide (a.take n = [])) = b := ⟨_, rfl⟩
  have hk : ¬ kd = 3 ∧ ¬ kd = 9 ∧ ¬ kd = 6 := (opens_false _).1 ho
  unfold standsM at hr
  simp only at hr
  rw [show opensK kd = false from ho, if_neg (by simp), ht] at hr
  obtain ⟨k3, k9, k6⟩ := hk
  have k3' := eq_false k3
  have k9' := eq_false k9
  have k6' := eq_false k6
  refine FnOK.startC (rvs := [.tmp 4]) G G_good Try.func30 rfl Try.ntmps30 rfl rfl ?_; delta List.toArray; ((with_reducible conv => whnf); (with_reducible conv => congr <;> reduce); repeat ((first | (with_reducible refine HaltK.mk ?_) | (with_reducible refine StopK.mk ?_)); (with_reducible conv => whnf); (with_reducible conv => congr <;> reduce)))
  by_cases e1 : kd = 1 ∨ kd = 2 ∨ kd = 7
  · rw [if_pos e1] at hr
    subst hr
    rcases e1 with e | e | e
    all_goals (repeat' (first
    | (first
    | ((with_reducible show IfK _ _ _ _); first | refine IfK.ff ?_ | refine IfK.tt ?_ | refine IfK.no (by first | rfl | assumption | exact nf (by assumption) | exact nt (by assumption) | ((try simp only [castN]); first | (simp [e]; done) | (simp [e]; omega))) ?_ | refine IfK.yes (by first | rfl | assumption | exact nf (by assumption) | exact nt (by assumption) | ((try simp only [castN]); first | (simp [e]; done) | (simp [e]; omega))) ?_)
    | ((with_reducible show NeedK _ _ _ _); refine NeedK.mk (by (try simp only [castN]); omega) ?_)
    | ((with_reducible show DrawK _ _ _ _); refine DrawK.mk (by kernel_rfl) (by kernel_rfl) (by kernel_rfl) ?_)
    | ((with_reducible show CallK _ _ 33 _ _ _ _); refine CallK.lend (news := [rB 1 n 2 3 ov, rA a, rT bc, rT kp]) [0, 1, 2, 3] [] (f33_gen bc kp ov h hs ht hb) c33 ⟨⟨rfl, rfl⟩, trivial⟩ (ins_book rfl rfl rfl rfl) rfl ⟨⟨rfl, rfl⟩, rfl⟩ rfl news_book rfl rfl ?_)) <;> ((with_reducible conv => whnf); (with_reducible conv => congr <;> reduce); repeat ((first | (with_reducible refine HaltK.mk ?_) | (with_reducible refine StopK.mk ?_)); (with_reducible conv => whnf); (with_reducible conv => congr <;> reduce)))
    | ((with_reducible show (_ ∧ _) ∧ _ ∧ _); refine ⟨⟨rfl, rfl⟩, ?_, ?_⟩ <;> (with_reducible conv => whnf) <;> repeat' (first | (with_reducible exact trivial) | (with_reducible refine And.intro ?_ ?_ <;> with_reducible conv => whnf)))))
    all_goals first | exact ok_tab _ | exact ok_ops _ | exact hl | rfl | trace_state
  · rw [if_neg e1] at hr
    have n1 : ¬ kd = 1 := fun e => e1 (.inl e)
    have n2 : ¬ kd = 2 := fun e => e1 (.inr (.inl e))
    have n7 : ¬ kd = 7 := fun e => e1 (.inr (.inr e))
    by_cases e5 : kd = 5
    · rw [if_pos e5] at hr
      subst hr
      by_cases g : td = dp
      · repeat' (first
    | (first
    | ((with_reducible show IfK _ _ _ _); first | refine IfK.ff ?_ | refine IfK.tt ?_ | refine IfK.no (by first | rfl | assumption | exact nf (by assumption) | exact nt (by assumption) | ((try simp only [castN]); first | (simp [e5, g]; done) | (simp [e5, g]; omega))) ?_ | refine IfK.yes (by first | rfl | assumption | exact nf (by assumption) | exact nt (by assumption) | ((try simp only [castN]); first | (simp [e5, g]; done) | (simp [e5, g]; omega))) ?_)
    | ((with_reducible show NeedK _ _ _ _); refine NeedK.mk (by (try simp only [castN]); omega) ?_)
    | ((with_reducible show DrawK _ _ _ _); refine DrawK.mk (by kernel_rfl) (by kernel_rfl) (by kernel_rfl) ?_)
    | ((with_reducible show CallK _ _ 33 _ _ _ _); refine CallK.lend (news := [rB 1 n 2 3 ov, rA a, rT bc, rT kp]) [0, 1, 2, 3] [] (f33_gen bc kp ov h hs ht hb) c33 ⟨⟨rfl, rfl⟩, trivial⟩ (ins_book rfl rfl rfl rfl) rfl ⟨⟨rfl, rfl⟩, rfl⟩ rfl news_book rfl rfl ?_)) <;> ((with_reducible conv => whnf); (with_reducible conv => congr <;> reduce); repeat ((first | (with_reducible refine HaltK.mk ?_) | (with_reducible refine StopK.mk ?_)); (with_reducible conv => whnf); (with_reducible conv => congr <;> reduce)))
    | ((with_reducible show (_ ∧ _) ∧ _ ∧ _); refine ⟨⟨rfl, rfl⟩, ?_, ?_⟩ <;> (with_reducible conv => whnf) <;> repeat' (first | (with_reducible exact trivial) | (with_reducible refine And.intro ?_ ?_ <;> with_reducible conv => whnf))))
        all_goals first | exact ok_tab _ | exact ok_ops _ | exact hl | (simp [g]; done) | trace_state
      · have g' := eq_false g
        repeat' (first
    | (first
    | ((with_reducible show IfK _ _ _ _); first | refine IfK.ff ?_ | refine IfK.tt ?_ | refine IfK.no (by first | rfl | assumption | exact nf (by assumption) | exact nt (by assumption) | ((try simp only [castN]); first | (simp [e5, g']; done) | (simp [e5, g']; omega))) ?_ | refine IfK.yes (by first | rfl | assumption | exact nf (by assumption) | exact nt (by assumption) | ((try simp only [castN]); first | (simp [e5, g']; done) | (simp [e5, g']; omega))) ?_)
    | ((with_reducible show NeedK _ _ _ _); refine NeedK.mk (by (try simp only [castN]); omega) ?_)
    | ((with_reducible show DrawK _ _ _ _); refine DrawK.mk (by kernel_rfl) (by kernel_rfl) (by kernel_rfl) ?_)
    | ((with_reducible show CallK _ _ 33 _ _ _ _); refine CallK.lend (news := [rB 1 n 2 3 ov, rA a, rT bc, rT kp]) [0, 1, 2, 3] [] (f33_gen bc kp ov h hs ht hb) c33 ⟨⟨rfl, rfl⟩, trivial⟩ (ins_book rfl rfl rfl rfl) rfl ⟨⟨rfl, rfl⟩, rfl⟩ rfl news_book rfl rfl ?_)) <;> ((with_reducible conv => whnf); (with_reducible conv => congr <;> reduce); repeat ((first | (with_reducible refine HaltK.mk ?_) | (with_reducible refine StopK.mk ?_)); (with_reducible conv => whnf); (with_reducible conv => congr <;> reduce)))
    | ((with_reducible show (_ ∧ _) ∧ _ ∧ _); refine ⟨⟨rfl, rfl⟩, ?_, ?_⟩ <;> (with_reducible conv => whnf) <;> repeat' (first | (with_reducible exact trivial) | (with_reducible refine And.intro ?_ ?_ <;> with_reducible conv => whnf))))
        all_goals first | exact ok_tab _ | exact ok_ops _ | exact hl | (simp [g]; done) | trace_state
    · rw [if_neg e5] at hr
      by_cases e8 : kd = 8
      · rw [if_pos e8] at hr
        subst hr
        repeat' (first
    | (first
    | ((with_reducible show IfK _ _ _ _); first | refine IfK.ff ?_ | refine IfK.tt ?_ | refine IfK.no (by first | rfl | assumption | exact nf (by assumption) | exact nt (by assumption) | ((try simp only [castN]); first | (simp [e8]; done) | (simp [e8]; omega))) ?_ | refine IfK.yes (by first | rfl | assumption | exact nf (by assumption) | exact nt (by assumption) | ((try simp only [castN]); first | (simp [e8]; done) | (simp [e8]; omega))) ?_)
    | ((with_reducible show NeedK _ _ _ _); refine NeedK.mk (by (try simp only [castN]); omega) ?_)
    | ((with_reducible show DrawK _ _ _ _); refine DrawK.mk (by kernel_rfl) (by kernel_rfl) (by kernel_rfl) ?_)
    | ((with_reducible show CallK _ _ 33 _ _ _ _); refine CallK.lend (news := [rB 1 n 2 3 ov, rA a, rT bc, rT kp]) [0, 1, 2, 3] [] (f33_gen bc kp ov h hs ht hb) c33 ⟨⟨rfl, rfl⟩, trivial⟩ (ins_book rfl rfl rfl rfl) rfl ⟨⟨rfl, rfl⟩, rfl⟩ rfl news_book rfl rfl ?_)) <;> ((with_reducible conv => whnf); (with_reducible conv => congr <;> reduce); repeat ((first | (with_reducible refine HaltK.mk ?_) | (with_reducible refine StopK.mk ?_)); (with_reducible conv => whnf); (with_reducible conv => congr <;> reduce)))
    | ((with_reducible show (_ ∧ _) ∧ _ ∧ _); refine ⟨⟨rfl, rfl⟩, ?_, ?_⟩ <;> (with_reducible conv => whnf) <;> repeat' (first | (with_reducible exact trivial) | (with_reducible refine And.intro ?_ ?_ <;> with_reducible conv => whnf))))
        all_goals first | exact ok_tab _ | exact ok_ops _ | exact hl | (rw [← hb]; simp; done) | trace_state
      · rw [if_neg e8] at hr
        by_cases e4 : kd = 4
        · rw [if_pos e4] at hr
          cases b with
          | false =>
            have hnil : a.take n = [] := by
              rw [Bool.not_eq_false'] at hb
              exact of_decide_eq_true hb
            rw [if_pos (.inl hnil)] at hr
            subst hr
            repeat' (first
    | (first
    | ((with_reducible show IfK _ _ _ _); first | refine IfK.ff ?_ | refine IfK.tt ?_ | refine IfK.no (by first | rfl | assumption | exact nf (by assumption) | exact nt (by assumption) | ((try simp only [castN]); first | (simp [e4]; done) | (simp [e4]; omega))) ?_ | refine IfK.yes (by first | rfl | assumption | exact nf (by assumption) | exact nt (by assumption) | ((try simp only [castN]); first | (simp [e4]; done) | (simp [e4]; omega))) ?_)
    | ((with_reducible show NeedK _ _ _ _); refine NeedK.mk (by (try simp only [castN]); omega) ?_)
    | ((with_reducible show DrawK _ _ _ _); refine DrawK.mk (by kernel_rfl) (by kernel_rfl) (by kernel_rfl) ?_)
    | ((with_reducible show CallK _ _ 33 _ _ _ _); refine CallK.lend (news := [rB 1 n 2 3 ov, rA a, rT bc, rT kp]) [0, 1, 2, 3] [] (f33_gen bc kp ov h hs ht hb) c33 ⟨⟨rfl, rfl⟩, trivial⟩ (ins_book rfl rfl rfl rfl) rfl ⟨⟨rfl, rfl⟩, rfl⟩ rfl news_book rfl rfl ?_)) <;> ((with_reducible conv => whnf); (with_reducible conv => congr <;> reduce); repeat ((first | (with_reducible refine HaltK.mk ?_) | (with_reducible refine StopK.mk ?_)); (with_reducible conv => whnf); (with_reducible conv => congr <;> reduce)))
    | ((with_reducible show (_ ∧ _) ∧ _ ∧ _); refine ⟨⟨rfl, rfl⟩, ?_, ?_⟩ <;> (with_reducible conv => whnf) <;> repeat' (first | (with_reducible exact trivial) | (with_reducible refine And.intro ?_ ?_ <;> with_reducible conv => whnf))))
            all_goals first | exact ok_tab _ | exact ok_ops _ | exact hl | rfl | trace_state
          | true =>
            have hnil : ¬ a.take n = [] := by
              rw [Bool.not_eq_true'] at hb
              exact of_decide_eq_false hb
            by_cases hz : (⟨tk, td, tw⟩ : OpM) = ⟨3, dp, wt⟩
            · rw [if_neg (by rintro (e | e); exact hnil e; exact e hz)] at hr
              subst hr
              obtain ⟨k, rfl⟩ : ∃ k, n = k + 1 := by
                cases n with
                | zero => exact absurd rfl hnil
                | succ k => exact ⟨k, rfl⟩
              have hdl : ((a.take (k + 1)).dropLast).length = k := by rw [List.length_dropLast, hl]; rfl
              cases hz
              repeat' (first
    | (first
    | ((with_reducible show IfK _ _ _ _); first | refine IfK.ff ?_ | refine IfK.tt ?_ | refine IfK.no (by first | rfl | assumption | exact nf (by assumption) | exact nt (by assumption) | ((try simp only [castN]); first | (simp [e4]; done) | (simp [e4]; omega))) ?_ | refine IfK.yes (by first | rfl | assumption | exact nf (by assumption) | exact nt (by assumption) | ((try simp only [castN]); first | (simp [e4]; done) | (simp [e4]; omega))) ?_)
    | ((with_reducible show NeedK _ _ _ _); refine NeedK.mk (by (try simp only [castN]); omega) ?_)
    | ((with_reducible show DrawK _ _ _ _); refine DrawK.mk (by kernel_rfl) (by kernel_rfl) (by kernel_rfl) ?_)
    | ((with_reducible show CallK _ _ 33 _ _ _ _); refine CallK.lend (news := [rB 1 (k + 1) 2 3 ov, rA a, rT bc, rT kp]) [0, 1, 2, 3] [] (f33_gen bc kp ov h hs ht hb) c33 ⟨⟨rfl, rfl⟩, trivial⟩ (ins_book rfl rfl rfl rfl) rfl ⟨⟨rfl, rfl⟩, rfl⟩ rfl news_book rfl rfl ?_)
    | ((with_reducible show EqK _ _ _ _ _ _ _ _); refine EqK.mk _ (fun y z w => op_neq ⟨3, dp, wt⟩ ⟨3, dp, wt⟩ y z w) ?_)
    | ((with_reducible show CallK _ _ 34 _ _ _ _); refine CallK.lend (news := [rB 1 k 2 3 ov, rA a, rT bc, rT kp]) [0, 1, 2, 3] [] (f34_at a k bc kp ov h (by omega)) c34 ⟨⟨rfl, rfl⟩, trivial⟩ (ins_book rfl rfl rfl rfl) rfl ⟨⟨rfl, rfl⟩, rfl⟩ rfl news_book rfl rfl ?_)) <;> ((with_reducible conv => whnf); (with_reducible conv => congr <;> reduce); repeat ((first | (with_reducible refine HaltK.mk ?_) | (with_reducible refine StopK.mk ?_)); (with_reducible conv => whnf); (with_reducible conv => congr <;> reduce)))
    | ((with_reducible show (_ ∧ _) ∧ _ ∧ _); refine ⟨⟨rfl, rfl⟩, ?_, ?_⟩ <;> (with_reducible conv => whnf) <;> repeat' (first | (with_reducible exact trivial) | (with_reducible refine And.intro ?_ ?_ <;> with_reducible conv => whnf))))
              all_goals first | exact ok_tab _ | exact ok_ops _ | exact hdl | rfl | trace_state
            · rw [if_pos (.inr hz)] at hr
              subst hr
              have hz' := eq_false hz
              repeat' (first
    | (first
    | ((with_reducible show IfK _ _ _ _); first | refine IfK.ff ?_ | refine IfK.tt ?_ | refine IfK.no (by first | rfl | assumption | exact nf (by assumption) | exact nt (by assumption) | ((try simp only [castN]); first | (simp [e4, hz']; done) | (simp [e4, hz']; omega))) ?_ | refine IfK.yes (by first | rfl | assumption | exact nf (by assumption) | exact nt (by assumption) | ((try simp only [castN]); first | (simp [e4, hz']; done) | (simp [e4, hz']; omega))) ?_)
    | ((with_reducible show NeedK _ _ _ _); refine NeedK.mk (by (try simp only [castN]); omega) ?_)
    | ((with_reducible show DrawK _ _ _ _); refine DrawK.mk (by kernel_rfl) (by kernel_rfl) (by kernel_rfl) ?_)
    | ((with_reducible show CallK _ _ 33 _ _ _ _); refine CallK.lend (news := [rB 1 n 2 3 ov, rA a, rT bc, rT kp]) [0, 1, 2, 3] [] (f33_gen bc kp ov h hs ht hb) c33 ⟨⟨rfl, rfl⟩, trivial⟩ (ins_book rfl rfl rfl rfl) rfl ⟨⟨rfl, rfl⟩, rfl⟩ rfl news_book rfl rfl ?_)
    | ((with_reducible show EqK _ _ _ _ _ _ _ _); refine EqK.mk _ (fun y z w => op_neq ⟨tk, td, tw⟩ ⟨3, dp, wt⟩ y z w) ?_)) <;> ((with_reducible conv => whnf); (with_reducible conv => congr <;> reduce); repeat ((first | (with_reducible refine HaltK.mk ?_) | (with_reducible refine StopK.mk ?_)); (with_reducible conv => whnf); (with_reducible conv => congr <;> reduce)))
    | ((with_reducible show (_ ∧ _) ∧ _ ∧ _); refine ⟨⟨rfl, rfl⟩, ?_, ?_⟩ <;> (with_reducible conv => whnf) <;> repeat' (first | (with_reducible exact trivial) | (with_reducible refine And.intro ?_ ?_ <;> with_reducible conv => whnf))))
              all_goals first | exact ok_tab _ | exact ok_ops _ | exact hl | rfl | trace_state
        · rw [if_neg e4] at hr
          subst hr
          repeat' (first
    | (first
    | ((with_reducible show IfK _ _ _ _); first | refine IfK.ff ?_ | refine IfK.tt ?_ | refine IfK.no (by first | rfl | assumption | exact nf (by assumption) | exact nt (by assumption) | ((try simp only [castN]); first | (simp [k3', k9', k6', n1, n2, n7, e5, e8, e4]; done) | (simp [k3', k9', k6', n1, n2, n7, e5, e8, e4]; omega))) ?_ | refine IfK.yes (by first | rfl | assumption | exact nf (by assumption) | exact nt (by assumption) | ((try simp only [castN]); first | (simp [k3', k9', k6', n1, n2, n7, e5, e8, e4]; done) | (simp [k3', k9', k6', n1, n2, n7, e5, e8, e4]; omega))) ?_)
    | ((with_reducible show NeedK _ _ _ _); refine NeedK.mk (by (try simp only [castN]); omega) ?_)
    | ((with_reducible show DrawK _ _ _ _); refine DrawK.mk (by kernel_rfl) (by kernel_rfl) (by kernel_rfl) ?_)
    | ((with_reducible show CallK _ _ 33 _ _ _ _); refine CallK.lend (news := [rB 1 n 2 3 ov, rA a, rT bc, rT kp]) [0, 1, 2, 3] [] (f33_gen bc kp ov h hs ht hb) c33 ⟨⟨rfl, rfl⟩, trivial⟩ (ins_book rfl rfl rfl rfl) rfl ⟨⟨rfl, rfl⟩, rfl⟩ rfl news_book rfl rfl ?_)) <;> ((with_reducible conv => whnf); (with_reducible conv => congr <;> reduce); repeat ((first | (with_reducible refine HaltK.mk ?_) | (with_reducible refine StopK.mk ?_)); (with_reducible conv => whnf); (with_reducible conv => congr <;> reduce)))
    | ((with_reducible show (_ ∧ _) ∧ _ ∧ _); refine ⟨⟨rfl, rfl⟩, ?_, ?_⟩ <;> (with_reducible conv => whnf) <;> repeat' (first | (with_reducible exact trivial) | (with_reducible refine And.intro ?_ ?_ <;> with_reducible conv => whnf))))
          all_goals first | exact ok_tab _ | exact ok_ops _ | exact hl | rfl | trace_state
end Go.Proofs.Audit
end
