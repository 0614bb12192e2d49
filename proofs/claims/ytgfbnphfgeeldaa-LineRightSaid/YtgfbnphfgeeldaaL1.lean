/- Contracts of functions of the given program (what each computes), conditions as stated in each theorem. By an AI agent. -/
import Derived.Test.YtgfbnphfgeeldaaAm21
import Derived.Test.YtgfbnphfgeeldaaChecked
namespace Go.Proofs.Line
open Go.Am
set_option maxRecDepth 100000
theorem g1 : TI.ok Try.prog 1 (.sc .nilFunc) := ⟨fun _ => by kernel_rfl, fun _ => by kernel_rfl, fun _ => by kernel_rfl⟩
theorem g2 : TI.ok Try.prog 2 (.sc (.int .i64 0)) := ⟨fun _ => by kernel_rfl, fun _ => by kernel_rfl, fun _ => by kernel_rfl⟩
theorem g3 : TI.ok Try.prog 3 (.sc (.int .i64 0)) := ⟨fun _ => by kernel_rfl, fun _ => by kernel_rfl, fun _ => by kernel_rfl⟩
theorem g4 : TI.ok Try.prog 4 (.bl) := ⟨fun _ => by kernel_rfl, fun _ => by kernel_rfl, fun _ => by kernel_rfl, by kernel_rfl⟩
theorem g5 : TI.ok Try.prog 5 (.sc (.int .u8 0)) := ⟨fun _ => by kernel_rfl, fun _ => by kernel_rfl, fun _ => by kernel_rfl⟩
theorem g9 : TI.ok Try.prog 9 (.str) := ⟨fun _ => by kernel_rfl, fun _ => by kernel_rfl, fun _ => by kernel_rfl, by kernel_rfl⟩
theorem g12 : TI.ok Try.prog 12 (.sc (.int .u64 0)) := ⟨fun _ => by kernel_rfl, fun _ => by kernel_rfl, fun _ => by kernel_rfl⟩
theorem g15 : TI.ok Try.prog 15 (.sc (.pointer none)) := ⟨fun _ => by kernel_rfl, fun _ => by kernel_rfl, fun _ => by kernel_rfl⟩
theorem g16 : TI.ok Try.prog 16 (.sc (.pointer none)) := ⟨fun _ => by kernel_rfl, fun _ => by kernel_rfl, fun _ => by kernel_rfl⟩
theorem g17 : TI.ok Try.prog 17 (.sc (.pointer none)) := ⟨fun _ => by kernel_rfl, fun _ => by kernel_rfl, fun _ => by kernel_rfl⟩
theorem g20 : TI.ok Try.prog 20 (.sc .nilIface) := ⟨fun _ => by kernel_rfl, fun _ => by kernel_rfl, fun _ => by kernel_rfl⟩
theorem g21 : TI.ok Try.prog 21 (.sc (.int .i32 0)) := ⟨fun _ => by kernel_rfl, fun _ => by kernel_rfl, fun _ => by kernel_rfl⟩
theorem g22 : TI.ok Try.prog 22 (.sl 39 1 24) := ⟨fun _ => by kernel_rfl, fun _ => by kernel_rfl, fun _ => by kernel_rfl, fun _ => by kernel_rfl, (Try.prog.info? 39).getD default, (.slice none 0 0), ⟨by kernel_rfl, by kernel_rfl, by kernel_rfl, by kernel_rfl, by kernel_rfl, by kernel_rfl⟩⟩
theorem g23 : TI.ok Try.prog 23 (.sl 24 1 24) := ⟨fun _ => by kernel_rfl, fun _ => by kernel_rfl, fun _ => by kernel_rfl, fun _ => by kernel_rfl, (Try.prog.info? 24).getD default, (.slice none 0 0), ⟨by kernel_rfl, by kernel_rfl, by kernel_rfl, by kernel_rfl, by kernel_rfl, by kernel_rfl⟩⟩
theorem g24 : TI.ok Try.prog 24 (.sl 3 1 8) := ⟨fun _ => by kernel_rfl, fun _ => by kernel_rfl, fun _ => by kernel_rfl, fun _ => by kernel_rfl, (Try.prog.info? 3).getD default, (.int .i64 0), ⟨by kernel_rfl, by kernel_rfl, by kernel_rfl, by kernel_rfl, by kernel_rfl, by kernel_rfl⟩⟩
theorem g25 : TI.ok Try.prog 25 (.st 4 [(0, 22), (1, 23), (2, 24), (3, 4)] #[(.slice none 0 0), (.slice none 0 0), (.slice none 0 0), (.bool false)] [1, 1, 1, 1]) := ⟨fun _ => by kernel_rfl, fun _ => by kernel_rfl, fun _ => by kernel_rfl, (fun f off ft h => match f, h with | 0, h => by cases h; exact ⟨fun _ _ => by kernel_rfl, fun _ _ => by kernel_rfl⟩ | 1, h => by cases h; exact ⟨fun _ _ => by kernel_rfl, fun _ _ => by kernel_rfl⟩ | 2, h => by cases h; exact ⟨fun _ _ => by kernel_rfl, fun _ _ => by kernel_rfl⟩ | 3, h => by cases h; exact ⟨fun _ _ => by kernel_rfl, fun _ _ => by kernel_rfl⟩ | (_ + 4), h => by simp at h),
    TBuild.mk (places := #[(0, 1), (1, 1), (2, 1), (3, 1)]) Try.underlying25 (fun _ => by kernel_rfl) (fun _ => by kernel_rfl) (fun i => match i with | 0 => rfl | 1 => rfl | 2 => rfl | 3 => rfl | (_ + 4) => by simp)⟩
theorem g26 : TI.ok Try.prog 26 (.st 4 [(0, 22), (1, 23), (2, 24), (3, 4)] #[(.slice none 0 0), (.slice none 0 0), (.slice none 0 0), (.bool false)] [1, 1, 1, 1]) := ⟨fun _ => by kernel_rfl, fun _ => by kernel_rfl, fun _ => by kernel_rfl, (fun f off ft h => match f, h with | 0, h => by cases h; exact ⟨fun _ _ => by kernel_rfl, fun _ _ => by kernel_rfl⟩ | 1, h => by cases h; exact ⟨fun _ _ => by kernel_rfl, fun _ _ => by kernel_rfl⟩ | 2, h => by cases h; exact ⟨fun _ _ => by kernel_rfl, fun _ _ => by kernel_rfl⟩ | 3, h => by cases h; exact ⟨fun _ _ => by kernel_rfl, fun _ _ => by kernel_rfl⟩ | (_ + 4), h => by simp at h),
    TBuild.mk (places := #[(0, 1), (1, 1), (2, 1), (3, 1)]) Try.underlying26 (fun _ => by kernel_rfl) (fun _ => by kernel_rfl) (fun i => match i with | 0 => rfl | 1 => rfl | 2 => rfl | 3 => rfl | (_ + 4) => by simp)⟩
theorem g27 : TI.ok Try.prog 27 (.st 10 [(0, 3), (1, 3), (2, 9), (3, 4), (4, 4), (5, 9), (6, 9), (7, 3), (8, 3), (9, 4)] #[(.int .i64 0), (.int .i64 0), (.string ByteArray.empty), (.bool false), (.bool false), (.string ByteArray.empty), (.string ByteArray.empty), (.int .i64 0), (.int .i64 0), (.bool false)] [1, 1, 1, 1, 1, 1, 1, 1, 1, 1]) := ⟨fun _ => by kernel_rfl, fun _ => by kernel_rfl, fun _ => by kernel_rfl, (fun f off ft h => match f, h with | 0, h => by cases h; exact ⟨fun _ _ => by kernel_rfl, fun _ _ => by kernel_rfl⟩ | 1, h => by cases h; exact ⟨fun _ _ => by kernel_rfl, fun _ _ => by kernel_rfl⟩ | 2, h => by cases h; exact ⟨fun _ _ => by kernel_rfl, fun _ _ => by kernel_rfl⟩ | 3, h => by cases h; exact ⟨fun _ _ => by kernel_rfl, fun _ _ => by kernel_rfl⟩ | 4, h => by cases h; exact ⟨fun _ _ => by kernel_rfl, fun _ _ => by kernel_rfl⟩ | 5, h => by cases h; exact ⟨fun _ _ => by kernel_rfl, fun _ _ => by kernel_rfl⟩ | 6, h => by cases h; exact ⟨fun _ _ => by kernel_rfl, fun _ _ => by kernel_rfl⟩ | 7, h => by cases h; exact ⟨fun _ _ => by kernel_rfl, fun _ _ => by kernel_rfl⟩ | 8, h => by cases h; exact ⟨fun _ _ => by kernel_rfl, fun _ _ => by kernel_rfl⟩ | 9, h => by cases h; exact ⟨fun _ _ => by kernel_rfl, fun _ _ => by kernel_rfl⟩ | (_ + 10), h => by simp at h),
    TBuild.mk (places := #[(0, 1), (1, 1), (2, 1), (3, 1), (4, 1), (5, 1), (6, 1), (7, 1), (8, 1), (9, 1)]) Try.underlying27 (fun _ => by kernel_rfl) (fun _ => by kernel_rfl) (fun i => match i with | 0 => rfl | 1 => rfl | 2 => rfl | 3 => rfl | 4 => rfl | 5 => rfl | 6 => rfl | 7 => rfl | 8 => rfl | 9 => rfl | (_ + 10) => by simp)⟩
theorem g28 : TI.ok Try.prog 28 (.st 10 [(0, 3), (1, 3), (2, 9), (3, 4), (4, 4), (5, 9), (6, 9), (7, 3), (8, 3), (9, 4)] #[(.int .i64 0), (.int .i64 0), (.string ByteArray.empty), (.bool false), (.bool false), (.string ByteArray.empty), (.string ByteArray.empty), (.int .i64 0), (.int .i64 0), (.bool false)] [1, 1, 1, 1, 1, 1, 1, 1, 1, 1]) := ⟨fun _ => by kernel_rfl, fun _ => by kernel_rfl, fun _ => by kernel_rfl, (fun f off ft h => match f, h with | 0, h => by cases h; exact ⟨fun _ _ => by kernel_rfl, fun _ _ => by kernel_rfl⟩ | 1, h => by cases h; exact ⟨fun _ _ => by kernel_rfl, fun _ _ => by kernel_rfl⟩ | 2, h => by cases h; exact ⟨fun _ _ => by kernel_rfl, fun _ _ => by kernel_rfl⟩ | 3, h => by cases h; exact ⟨fun _ _ => by kernel_rfl, fun _ _ => by kernel_rfl⟩ | 4, h => by cases h; exact ⟨fun _ _ => by kernel_rfl, fun _ _ => by kernel_rfl⟩ | 5, h => by cases h; exact ⟨fun _ _ => by kernel_rfl, fun _ _ => by kernel_rfl⟩ | 6, h => by cases h; exact ⟨fun _ _ => by kernel_rfl, fun _ _ => by kernel_rfl⟩ | 7, h => by cases h; exact ⟨fun _ _ => by kernel_rfl, fun _ _ => by kernel_rfl⟩ | 8, h => by cases h; exact ⟨fun _ _ => by kernel_rfl, fun _ _ => by kernel_rfl⟩ | 9, h => by cases h; exact ⟨fun _ _ => by kernel_rfl, fun _ _ => by kernel_rfl⟩ | (_ + 10), h => by simp at h),
    TBuild.mk (places := #[(0, 1), (1, 1), (2, 1), (3, 1), (4, 1), (5, 1), (6, 1), (7, 1), (8, 1), (9, 1)]) Try.underlying28 (fun _ => by kernel_rfl) (fun _ => by kernel_rfl) (fun i => match i with | 0 => rfl | 1 => rfl | 2 => rfl | 3 => rfl | 4 => rfl | 5 => rfl | 6 => rfl | 7 => rfl | 8 => rfl | 9 => rfl | (_ + 10) => by simp)⟩
theorem g29 : TI.ok Try.prog 29 (.sc .nilFunc) := ⟨fun _ => by kernel_rfl, fun _ => by kernel_rfl, fun _ => by kernel_rfl⟩
theorem g30 : TI.ok Try.prog 30 (.sc .nilFunc) := ⟨fun _ => by kernel_rfl, fun _ => by kernel_rfl, fun _ => by kernel_rfl⟩
theorem g31 : TI.ok Try.prog 31 (.sc (.int .i64 0)) := ⟨fun _ => by kernel_rfl, fun _ => by kernel_rfl, fun _ => by kernel_rfl⟩
theorem g33 : TI.ok Try.prog 33 (.sc .nilFunc) := ⟨fun _ => by kernel_rfl, fun _ => by kernel_rfl, fun _ => by kernel_rfl⟩
theorem g34 : TI.ok Try.prog 34 (.sc .nilFunc) := ⟨fun _ => by kernel_rfl, fun _ => by kernel_rfl, fun _ => by kernel_rfl⟩
theorem g35 : TI.ok Try.prog 35 (.sc .nilFunc) := ⟨fun _ => by kernel_rfl, fun _ => by kernel_rfl, fun _ => by kernel_rfl⟩
theorem g37 : TI.ok Try.prog 37 (.sc .nilFunc) := ⟨fun _ => by kernel_rfl, fun _ => by kernel_rfl, fun _ => by kernel_rfl⟩
theorem g38 : TI.ok Try.prog 38 (.sc .nilFunc) := ⟨fun _ => by kernel_rfl, fun _ => by kernel_rfl, fun _ => by kernel_rfl⟩
theorem g39 : TI.ok Try.prog 39 (.sl 28 10 96) := ⟨fun _ => by kernel_rfl, fun _ => by kernel_rfl, fun _ => by kernel_rfl, fun _ => by kernel_rfl, (Try.prog.info? 28).getD default, (.agg #[(.int .i64 0), (.int .i64 0), (.string ByteArray.empty), (.bool false), (.bool false), (.string ByteArray.empty), (.string ByteArray.empty), (.int .i64 0), (.int .i64 0), (.bool false)]), ⟨by kernel_rfl, by kernel_rfl, by kernel_rfl, by kernel_rfl, by kernel_rfl, by kernel_rfl⟩⟩
theorem g41 : TI.ok Try.prog 41 (.sc .nilFunc) := ⟨fun _ => by kernel_rfl, fun _ => by kernel_rfl, fun _ => by kernel_rfl⟩
theorem g42 : TI.ok Try.prog 42 (.sc .nilFunc) := ⟨fun _ => by kernel_rfl, fun _ => by kernel_rfl, fun _ => by kernel_rfl⟩
theorem g43 : TI.ok Try.prog 43 (.sc .nilFunc) := ⟨fun _ => by kernel_rfl, fun _ => by kernel_rfl, fun _ => by kernel_rfl⟩
theorem g45 : TI.ok Try.prog 45 (.sc .nilFunc) := ⟨fun _ => by kernel_rfl, fun _ => by kernel_rfl, fun _ => by kernel_rfl⟩
theorem g47 : TI.ok Try.prog 47 (.sc .nilFunc) := ⟨fun _ => by kernel_rfl, fun _ => by kernel_rfl, fun _ => by kernel_rfl⟩
theorem g49 : TI.ok Try.prog 49 (.sc .nilFunc) := ⟨fun _ => by kernel_rfl, fun _ => by kernel_rfl, fun _ => by kernel_rfl⟩
theorem g51 : TI.ok Try.prog 51 (.sc .nilFunc) := ⟨fun _ => by kernel_rfl, fun _ => by kernel_rfl, fun _ => by kernel_rfl⟩
theorem g52 : TI.ok Try.prog 52 (.sc .nilFunc) := ⟨fun _ => by kernel_rfl, fun _ => by kernel_rfl, fun _ => by kernel_rfl⟩
theorem g53 : TI.ok Try.prog 53 (.sc .nilFunc) := ⟨fun _ => by kernel_rfl, fun _ => by kernel_rfl, fun _ => by kernel_rfl⟩
theorem g54 : TI.ok Try.prog 54 (.sl 57 2 2) := ⟨fun _ => by kernel_rfl, fun _ => by kernel_rfl, fun _ => by kernel_rfl, fun _ => by kernel_rfl, (Try.prog.info? 57).getD default, (.agg #[(.int .u8 0), (.int .u8 0)]), ⟨by kernel_rfl, by kernel_rfl, by kernel_rfl, by kernel_rfl, by kernel_rfl, by kernel_rfl⟩⟩
theorem g55 : TI.ok Try.prog 55 (.ar 5 5 24 1 #[(.slice none 0 0), (.slice none 0 0), (.slice none 0 0), (.slice none 0 0), (.slice none 0 0)]) := ⟨fun _ => by kernel_rfl, fun _ => by kernel_rfl, fun _ => by kernel_rfl, (by unfold TArray; kernel_rfl), fun _ => by kernel_rfl⟩
theorem g56 : TI.ok Try.prog 56 (.st 2 [(0, 5), (1, 5)] #[(.int .u8 0), (.int .u8 0)] [1, 1]) := ⟨fun _ => by kernel_rfl, fun _ => by kernel_rfl, fun _ => by kernel_rfl, (fun f off ft h => match f, h with | 0, h => by cases h; exact ⟨fun _ _ => by kernel_rfl, fun _ _ => by kernel_rfl⟩ | 1, h => by cases h; exact ⟨fun _ _ => by kernel_rfl, fun _ _ => by kernel_rfl⟩ | (_ + 2), h => by simp at h),
    TBuild.mk (places := #[(0, 1), (1, 1)]) Try.underlying56 (fun _ => by kernel_rfl) (fun _ => by kernel_rfl) (fun i => match i with | 0 => rfl | 1 => rfl | (_ + 2) => by simp)⟩
theorem g57 : TI.ok Try.prog 57 (.st 2 [(0, 5), (1, 5)] #[(.int .u8 0), (.int .u8 0)] [1, 1]) := ⟨fun _ => by kernel_rfl, fun _ => by kernel_rfl, fun _ => by kernel_rfl, (fun f off ft h => match f, h with | 0, h => by cases h; exact ⟨fun _ _ => by kernel_rfl, fun _ _ => by kernel_rfl⟩ | 1, h => by cases h; exact ⟨fun _ _ => by kernel_rfl, fun _ _ => by kernel_rfl⟩ | (_ + 2), h => by simp at h),
    TBuild.mk (places := #[(0, 1), (1, 1)]) Try.underlying57 (fun _ => by kernel_rfl) (fun _ => by kernel_rfl) (fun i => match i with | 0 => rfl | 1 => rfl | (_ + 2) => by simp)⟩
theorem g58 : TI.ok Try.prog 58 (.sc .nilFunc) := ⟨fun _ => by kernel_rfl, fun _ => by kernel_rfl, fun _ => by kernel_rfl⟩
theorem g59 : TI.ok Try.prog 59 (.sc .nilFunc) := ⟨fun _ => by kernel_rfl, fun _ => by kernel_rfl, fun _ => by kernel_rfl⟩
theorem g60 : TI.ok Try.prog 60 (.sc .nilFunc) := ⟨fun _ => by kernel_rfl, fun _ => by kernel_rfl, fun _ => by kernel_rfl⟩
theorem g61 : TI.ok Try.prog 61 (.sc .nilFunc) := ⟨fun _ => by kernel_rfl, fun _ => by kernel_rfl, fun _ => by kernel_rfl⟩
theorem g62 : TI.ok Try.prog 62 (.sc .nilFunc) := ⟨fun _ => by kernel_rfl, fun _ => by kernel_rfl, fun _ => by kernel_rfl⟩
theorem g63 : TI.ok Try.prog 63 (.sc .nilFunc) := ⟨fun _ => by kernel_rfl, fun _ => by kernel_rfl, fun _ => by kernel_rfl⟩
theorem g64 : TI.ok Try.prog 64 (.sc .nilFunc) := ⟨fun _ => by kernel_rfl, fun _ => by kernel_rfl, fun _ => by kernel_rfl⟩
theorem g65 : TI.ok Try.prog 65 (.sc .nilFunc) := ⟨fun _ => by kernel_rfl, fun _ => by kernel_rfl, fun _ => by kernel_rfl⟩
theorem g66 : TI.ok Try.prog 66 (.sc .nilFunc) := ⟨fun _ => by kernel_rfl, fun _ => by kernel_rfl, fun _ => by kernel_rfl⟩
theorem g67 : TI.ok Try.prog 67 (.sc .nilFunc) := ⟨fun _ => by kernel_rfl, fun _ => by kernel_rfl, fun _ => by kernel_rfl⟩
theorem g68 : TI.ok Try.prog 68 (.sc .nilFunc) := ⟨fun _ => by kernel_rfl, fun _ => by kernel_rfl, fun _ => by kernel_rfl⟩
theorem g69 : TI.ok Try.prog 69 (.sc .nilFunc) := ⟨fun _ => by kernel_rfl, fun _ => by kernel_rfl, fun _ => by kernel_rfl⟩
theorem g70 : TI.ok Try.prog 70 (.sc .nilFunc) := ⟨fun _ => by kernel_rfl, fun _ => by kernel_rfl, fun _ => by kernel_rfl⟩
theorem g76 : TI.ok Try.prog 76 (.sc .nilFunc) := ⟨fun _ => by kernel_rfl, fun _ => by kernel_rfl, fun _ => by kernel_rfl⟩
theorem g77 : TI.ok Try.prog 77 (.sc (.int .u32 0)) := ⟨fun _ => by kernel_rfl, fun _ => by kernel_rfl, fun _ => by kernel_rfl⟩
theorem g80 : TI.ok Try.prog 80 (.sc .nilFunc) := ⟨fun _ => by kernel_rfl, fun _ => by kernel_rfl, fun _ => by kernel_rfl⟩
theorem g81 : TI.ok Try.prog 81 (.sc (.pointer none)) := ⟨fun _ => by kernel_rfl, fun _ => by kernel_rfl, fun _ => by kernel_rfl⟩
theorem g84 : TI.ok Try.prog 84 (.st 11 [(0, 12), (1, 12), (2, 77), (3, 78), (4, 5), (5, 5), (6, 79), (7, 80), (8, 81), (9, 82), (10, 83)] #[(.int .u64 0), (.int .u64 0), (.int .u32 0), (.int .u8 0), (.int .u8 0), (.int .u8 0), (.int .u8 0), .nilFunc, (.pointer none), (.int .i32 0), (.int .i32 0)] [1, 1, 1, 1, 1, 1, 1, 1, 1, 1, 1]) := ⟨fun _ => by kernel_rfl, fun _ => by kernel_rfl, fun _ => by kernel_rfl, (fun f off ft h => match f, h with | 0, h => by cases h; exact ⟨fun _ _ => by kernel_rfl, fun _ _ => by kernel_rfl⟩ | 1, h => by cases h; exact ⟨fun _ _ => by kernel_rfl, fun _ _ => by kernel_rfl⟩ | 2, h => by cases h; exact ⟨fun _ _ => by kernel_rfl, fun _ _ => by kernel_rfl⟩ | 3, h => by cases h; exact ⟨fun _ _ => by kernel_rfl, fun _ _ => by kernel_rfl⟩ | 4, h => by cases h; exact ⟨fun _ _ => by kernel_rfl, fun _ _ => by kernel_rfl⟩ | 5, h => by cases h; exact ⟨fun _ _ => by kernel_rfl, fun _ _ => by kernel_rfl⟩ | 6, h => by cases h; exact ⟨fun _ _ => by kernel_rfl, fun _ _ => by kernel_rfl⟩ | 7, h => by cases h; exact ⟨fun _ _ => by kernel_rfl, fun _ _ => by kernel_rfl⟩ | 8, h => by cases h; exact ⟨fun _ _ => by kernel_rfl, fun _ _ => by kernel_rfl⟩ | 9, h => by cases h; exact ⟨fun _ _ => by kernel_rfl, fun _ _ => by kernel_rfl⟩ | 10, h => by cases h; exact ⟨fun _ _ => by kernel_rfl, fun _ _ => by kernel_rfl⟩ | (_ + 11), h => by simp at h),
    TBuild.mk (places := #[(0, 1), (1, 1), (2, 1), (3, 1), (4, 1), (5, 1), (6, 1), (7, 1), (8, 1), (9, 1), (10, 1)]) Try.underlying84 (fun _ => by kernel_rfl) (fun _ => by kernel_rfl) (fun i => match i with | 0 => rfl | 1 => rfl | 2 => rfl | 3 => rfl | 4 => rfl | 5 => rfl | 6 => rfl | 7 => rfl | 8 => rfl | 9 => rfl | 10 => rfl | (_ + 11) => by simp)⟩
def G : TEnv := [(1, .sc .nilFunc), (2, .sc (.int .i64 0)), (3, .sc (.int .i64 0)), (4, .bl), (5, .sc (.int .u8 0)), (9, .str), (12, .sc (.int .u64 0)), (15, .sc (.pointer none)), (16, .sc (.pointer none)), (17, .sc (.pointer none)), (20, .sc .nilIface), (21, .sc (.int .i32 0)), (22, .sl 39 1 24), (23, .sl 24 1 24), (24, .sl 3 1 8), (25, .st 4 [(0, 22), (1, 23), (2, 24), (3, 4)] #[(.slice none 0 0), (.slice none 0 0), (.slice none 0 0), (.bool false)] [1, 1, 1, 1]), (26, .st 4 [(0, 22), (1, 23), (2, 24), (3, 4)] #[(.slice none 0 0), (.slice none 0 0), (.slice none 0 0), (.bool false)] [1, 1, 1, 1]), (27, .st 10 [(0, 3), (1, 3), (2, 9), (3, 4), (4, 4), (5, 9), (6, 9), (7, 3), (8, 3), (9, 4)] #[(.int .i64 0), (.int .i64 0), (.string ByteArray.empty), (.bool false), (.bool false), (.string ByteArray.empty), (.string ByteArray.empty), (.int .i64 0), (.int .i64 0), (.bool false)] [1, 1, 1, 1, 1, 1, 1, 1, 1, 1]), (28, .st 10 [(0, 3), (1, 3), (2, 9), (3, 4), (4, 4), (5, 9), (6, 9), (7, 3), (8, 3), (9, 4)] #[(.int .i64 0), (.int .i64 0), (.string ByteArray.empty), (.bool false), (.bool false), (.string ByteArray.empty), (.string ByteArray.empty), (.int .i64 0), (.int .i64 0), (.bool false)] [1, 1, 1, 1, 1, 1, 1, 1, 1, 1]), (29, .sc .nilFunc), (30, .sc .nilFunc), (31, .sc (.int .i64 0)), (33, .sc .nilFunc), (34, .sc .nilFunc), (35, .sc .nilFunc), (37, .sc .nilFunc), (38, .sc .nilFunc), (39, .sl 28 10 96), (41, .sc .nilFunc), (42, .sc .nilFunc), (43, .sc .nilFunc), (45, .sc .nilFunc), (47, .sc .nilFunc), (49, .sc .nilFunc), (51, .sc .nilFunc), (52, .sc .nilFunc), (53, .sc .nilFunc), (54, .sl 57 2 2), (55, .ar 5 5 24 1 #[(.slice none 0 0), (.slice none 0 0), (.slice none 0 0), (.slice none 0 0), (.slice none 0 0)]), (56, .st 2 [(0, 5), (1, 5)] #[(.int .u8 0), (.int .u8 0)] [1, 1]), (57, .st 2 [(0, 5), (1, 5)] #[(.int .u8 0), (.int .u8 0)] [1, 1]), (58, .sc .nilFunc), (59, .sc .nilFunc), (60, .sc .nilFunc), (61, .sc .nilFunc), (62, .sc .nilFunc), (63, .sc .nilFunc), (64, .sc .nilFunc), (65, .sc .nilFunc), (66, .sc .nilFunc), (67, .sc .nilFunc), (68, .sc .nilFunc), (69, .sc .nilFunc), (70, .sc .nilFunc), (76, .sc .nilFunc), (77, .sc (.int .u32 0)), (80, .sc .nilFunc), (81, .sc (.pointer none)), (84, .st 11 [(0, 12), (1, 12), (2, 77), (3, 78), (4, 5), (5, 5), (6, 79), (7, 80), (8, 81), (9, 82), (10, 83)] #[(.int .u64 0), (.int .u64 0), (.int .u32 0), (.int .u8 0), (.int .u8 0), (.int .u8 0), (.int .u8 0), .nilFunc, (.pointer none), (.int .i32 0), (.int .i32 0)] [1, 1, 1, 1, 1, 1, 1, 1, 1, 1, 1])]
theorem lt1 : lookT G 1 = some (.sc .nilFunc) := rfl
theorem lt2 : lookT G 2 = some (.sc (.int .i64 0)) := rfl
theorem lt3 : lookT G 3 = some (.sc (.int .i64 0)) := rfl
theorem lt4 : lookT G 4 = some (.bl) := rfl
theorem lt5 : lookT G 5 = some (.sc (.int .u8 0)) := rfl
theorem lt9 : lookT G 9 = some (.str) := rfl
theorem lt12 : lookT G 12 = some (.sc (.int .u64 0)) := rfl
theorem lt15 : lookT G 15 = some (.sc (.pointer none)) := rfl
theorem lt16 : lookT G 16 = some (.sc (.pointer none)) := rfl
theorem lt17 : lookT G 17 = some (.sc (.pointer none)) := rfl
theorem lt20 : lookT G 20 = some (.sc .nilIface) := rfl
theorem lt21 : lookT G 21 = some (.sc (.int .i32 0)) := rfl
theorem lt22 : lookT G 22 = some (.sl 39 1 24) := rfl
theorem lt23 : lookT G 23 = some (.sl 24 1 24) := rfl
theorem lt24 : lookT G 24 = some (.sl 3 1 8) := rfl
theorem lt25 : lookT G 25 = some (.st 4 [(0, 22), (1, 23), (2, 24), (3, 4)] #[(.slice none 0 0), (.slice none 0 0), (.slice none 0 0), (.bool false)] [1, 1, 1, 1]) := rfl
theorem lt26 : lookT G 26 = some (.st 4 [(0, 22), (1, 23), (2, 24), (3, 4)] #[(.slice none 0 0), (.slice none 0 0), (.slice none 0 0), (.bool false)] [1, 1, 1, 1]) := rfl
theorem lt27 : lookT G 27 = some (.st 10 [(0, 3), (1, 3), (2, 9), (3, 4), (4, 4), (5, 9), (6, 9), (7, 3), (8, 3), (9, 4)] #[(.int .i64 0), (.int .i64 0), (.string ByteArray.empty), (.bool false), (.bool false), (.string ByteArray.empty), (.string ByteArray.empty), (.int .i64 0), (.int .i64 0), (.bool false)] [1, 1, 1, 1, 1, 1, 1, 1, 1, 1]) := rfl
theorem lt28 : lookT G 28 = some (.st 10 [(0, 3), (1, 3), (2, 9), (3, 4), (4, 4), (5, 9), (6, 9), (7, 3), (8, 3), (9, 4)] #[(.int .i64 0), (.int .i64 0), (.string ByteArray.empty), (.bool false), (.bool false), (.string ByteArray.empty), (.string ByteArray.empty), (.int .i64 0), (.int .i64 0), (.bool false)] [1, 1, 1, 1, 1, 1, 1, 1, 1, 1]) := rfl
theorem lt29 : lookT G 29 = some (.sc .nilFunc) := rfl
theorem lt30 : lookT G 30 = some (.sc .nilFunc) := rfl
theorem lt31 : lookT G 31 = some (.sc (.int .i64 0)) := rfl
theorem lt33 : lookT G 33 = some (.sc .nilFunc) := rfl
theorem lt34 : lookT G 34 = some (.sc .nilFunc) := rfl
theorem lt35 : lookT G 35 = some (.sc .nilFunc) := rfl
theorem lt37 : lookT G 37 = some (.sc .nilFunc) := rfl
theorem lt38 : lookT G 38 = some (.sc .nilFunc) := rfl
theorem lt39 : lookT G 39 = some (.sl 28 10 96) := rfl
theorem lt41 : lookT G 41 = some (.sc .nilFunc) := rfl
theorem lt42 : lookT G 42 = some (.sc .nilFunc) := rfl
theorem lt43 : lookT G 43 = some (.sc .nilFunc) := rfl
theorem lt45 : lookT G 45 = some (.sc .nilFunc) := rfl
theorem lt47 : lookT G 47 = some (.sc .nilFunc) := rfl
theorem lt49 : lookT G 49 = some (.sc .nilFunc) := rfl
theorem lt51 : lookT G 51 = some (.sc .nilFunc) := rfl
theorem lt52 : lookT G 52 = some (.sc .nilFunc) := rfl
theorem lt53 : lookT G 53 = some (.sc .nilFunc) := rfl
theorem lt54 : lookT G 54 = some (.sl 57 2 2) := rfl
theorem lt55 : lookT G 55 = some (.ar 5 5 24 1 #[(.slice none 0 0), (.slice none 0 0), (.slice none 0 0), (.slice none 0 0), (.slice none 0 0)]) := rfl
theorem lt56 : lookT G 56 = some (.st 2 [(0, 5), (1, 5)] #[(.int .u8 0), (.int .u8 0)] [1, 1]) := rfl
theorem lt57 : lookT G 57 = some (.st 2 [(0, 5), (1, 5)] #[(.int .u8 0), (.int .u8 0)] [1, 1]) := rfl
theorem lt58 : lookT G 58 = some (.sc .nilFunc) := rfl
theorem lt59 : lookT G 59 = some (.sc .nilFunc) := rfl
theorem lt60 : lookT G 60 = some (.sc .nilFunc) := rfl
theorem lt61 : lookT G 61 = some (.sc .nilFunc) := rfl
theorem lt62 : lookT G 62 = some (.sc .nilFunc) := rfl
theorem lt63 : lookT G 63 = some (.sc .nilFunc) := rfl
theorem lt64 : lookT G 64 = some (.sc .nilFunc) := rfl
theorem lt65 : lookT G 65 = some (.sc .nilFunc) := rfl
theorem lt66 : lookT G 66 = some (.sc .nilFunc) := rfl
theorem lt67 : lookT G 67 = some (.sc .nilFunc) := rfl
theorem lt68 : lookT G 68 = some (.sc .nilFunc) := rfl
theorem lt69 : lookT G 69 = some (.sc .nilFunc) := rfl
theorem lt70 : lookT G 70 = some (.sc .nilFunc) := rfl
theorem lt76 : lookT G 76 = some (.sc .nilFunc) := rfl
theorem lt77 : lookT G 77 = some (.sc (.int .u32 0)) := rfl
theorem lt80 : lookT G 80 = some (.sc .nilFunc) := rfl
theorem lt81 : lookT G 81 = some (.sc (.pointer none)) := rfl
theorem lt84 : lookT G 84 = some (.st 11 [(0, 12), (1, 12), (2, 77), (3, 78), (4, 5), (5, 5), (6, 79), (7, 80), (8, 81), (9, 82), (10, 83)] #[(.int .u64 0), (.int .u64 0), (.int .u32 0), (.int .u8 0), (.int .u8 0), (.int .u8 0), (.int .u8 0), .nilFunc, (.pointer none), (.int .i32 0), (.int .i32 0)] [1, 1, 1, 1, 1, 1, 1, 1, 1, 1, 1]) := rfl
theorem G_good : G.Good Try.prog := List.forall_mem_cons.2 ⟨g1, List.forall_mem_cons.2 ⟨g2, List.forall_mem_cons.2 ⟨g3, List.forall_mem_cons.2 ⟨g4, List.forall_mem_cons.2 ⟨g5, List.forall_mem_cons.2 ⟨g9, List.forall_mem_cons.2 ⟨g12, List.forall_mem_cons.2 ⟨g15, List.forall_mem_cons.2 ⟨g16, List.forall_mem_cons.2 ⟨g17, List.forall_mem_cons.2 ⟨g20, List.forall_mem_cons.2 ⟨g21, List.forall_mem_cons.2 ⟨g22, List.forall_mem_cons.2 ⟨g23, List.forall_mem_cons.2 ⟨g24, List.forall_mem_cons.2 ⟨g25, List.forall_mem_cons.2 ⟨g26, List.forall_mem_cons.2 ⟨g27, List.forall_mem_cons.2 ⟨g28, List.forall_mem_cons.2 ⟨g29, List.forall_mem_cons.2 ⟨g30, List.forall_mem_cons.2 ⟨g31, List.forall_mem_cons.2 ⟨g33, List.forall_mem_cons.2 ⟨g34, List.forall_mem_cons.2 ⟨g35, List.forall_mem_cons.2 ⟨g37, List.forall_mem_cons.2 ⟨g38, List.forall_mem_cons.2 ⟨g39, List.forall_mem_cons.2 ⟨g41, List.forall_mem_cons.2 ⟨g42, List.forall_mem_cons.2 ⟨g43, List.forall_mem_cons.2 ⟨g45, List.forall_mem_cons.2 ⟨g47, List.forall_mem_cons.2 ⟨g49, List.forall_mem_cons.2 ⟨g51, List.forall_mem_cons.2 ⟨g52, List.forall_mem_cons.2 ⟨g53, List.forall_mem_cons.2 ⟨g54, List.forall_mem_cons.2 ⟨g55, List.forall_mem_cons.2 ⟨g56, List.forall_mem_cons.2 ⟨g57, List.forall_mem_cons.2 ⟨g58, List.forall_mem_cons.2 ⟨g59, List.forall_mem_cons.2 ⟨g60, List.forall_mem_cons.2 ⟨g61, List.forall_mem_cons.2 ⟨g62, List.forall_mem_cons.2 ⟨g63, List.forall_mem_cons.2 ⟨g64, List.forall_mem_cons.2 ⟨g65, List.forall_mem_cons.2 ⟨g66, List.forall_mem_cons.2 ⟨g67, List.forall_mem_cons.2 ⟨g68, List.forall_mem_cons.2 ⟨g69, List.forall_mem_cons.2 ⟨g70, List.forall_mem_cons.2 ⟨g76, List.forall_mem_cons.2 ⟨g77, List.forall_mem_cons.2 ⟨g80, List.forall_mem_cons.2 ⟨g81, List.forall_mem_cons.2 ⟨g84, (fun _ h => by simp at h)⟩⟩⟩⟩⟩⟩⟩⟩⟩⟩⟩⟩⟩⟩⟩⟩⟩⟩⟩⟩⟩⟩⟩⟩⟩⟩⟩⟩⟩⟩⟩⟩⟩⟩⟩⟩⟩⟩⟩⟩⟩⟩⟩⟩⟩⟩⟩⟩⟩⟩⟩⟩⟩⟩⟩⟩⟩⟩⟩
theorem c3 : Callable Try.prog 3 := fun _ _ => by kernel_rfl
theorem c4 : Callable Try.prog 4 := fun _ _ => by kernel_rfl
theorem c5 : Callable Try.prog 5 := fun _ _ => by kernel_rfl
theorem c6 : Callable Try.prog 6 := fun _ _ => by kernel_rfl
theorem c7 : Callable Try.prog 7 := fun _ _ => by kernel_rfl
theorem c8 : Callable Try.prog 8 := fun _ _ => by kernel_rfl
theorem c9 : Callable Try.prog 9 := fun _ _ => by kernel_rfl
theorem c10 : Callable Try.prog 10 := fun _ _ => by kernel_rfl
theorem c11 : Callable Try.prog 11 := fun _ _ => by kernel_rfl
theorem c12 : Callable Try.prog 12 := fun _ _ => by kernel_rfl
theorem c13 : Callable Try.prog 13 := fun _ _ => by kernel_rfl
theorem c14 : Callable Try.prog 14 := fun _ _ => by kernel_rfl
theorem c15 : Callable Try.prog 15 := fun _ _ => by kernel_rfl
theorem c16 : Callable Try.prog 16 := fun _ _ => by kernel_rfl
theorem c17 : Callable Try.prog 17 := fun _ _ => by kernel_rfl
theorem c18 : Callable Try.prog 18 := fun _ _ => by kernel_rfl
theorem c19 : Callable Try.prog 19 := fun _ _ => by kernel_rfl
theorem c20 : Callable Try.prog 20 := fun _ _ => by kernel_rfl
theorem c21 : Callable Try.prog 21 := fun _ _ => by kernel_rfl
theorem c22 : Callable Try.prog 22 := fun _ _ => by kernel_rfl
theorem c23 : Callable Try.prog 23 := fun _ _ => by kernel_rfl
theorem c24 : Callable Try.prog 24 := fun _ _ => by kernel_rfl
theorem c25 : Callable Try.prog 25 := fun _ _ => by kernel_rfl
theorem c26 : Callable Try.prog 26 := fun _ _ => by kernel_rfl
theorem c27 : Callable Try.prog 27 := fun _ _ => by kernel_rfl
theorem c28 : Callable Try.prog 28 := fun _ _ => by kernel_rfl
theorem c29 : Callable Try.prog 29 := fun _ _ => by kernel_rfl
theorem c30 : Callable Try.prog 30 := fun _ _ => by kernel_rfl
theorem c31 : Callable Try.prog 31 := fun _ _ => by kernel_rfl
theorem c32 : Callable Try.prog 32 := fun _ _ => by kernel_rfl
theorem c33 : Callable Try.prog 33 := fun _ _ => by kernel_rfl
theorem c34 : Callable Try.prog 34 := fun _ _ => by kernel_rfl
theorem c35 : Callable Try.prog 35 := fun _ _ => by kernel_rfl
theorem c36 : Callable Try.prog 36 := fun _ _ => by kernel_rfl
theorem c37 : Callable Try.prog 37 := fun _ _ => by kernel_rfl
theorem c38 : Callable Try.prog 38 := fun _ _ => by kernel_rfl
theorem c39 : Callable Try.prog 39 := fun _ _ => by kernel_rfl
theorem c40 : Callable Try.prog 40 := fun _ _ => by kernel_rfl
end Go.Proofs.Line
