/- Models, plain laws and contracts of functions of the given program; conditions as stated in each theorem. By an AI agent. -/
import Derived.Test.YtadjfbmhbfjjaaaW3
import Derived.Test.YtadjfbmhbfjjaaaChecked
import Derived.Test.YtadjfbmhbfjjaaaW1
import Derived.Shelf.GgClosure.StringsIndexFunc
import Derived.Deep.LoopGhost
import Derived.WalkKit
import Derived.Laws.IdiomStrings
import Derived.IntWalk
import Derived.Outline
import Derived.Lib.Hide
import Derived.Lib.MapLaws
import Derived.Shelf.Strings.Search1
import Derived.Shelf.Strings.Search2
import Derived.Shelf.Strings.Search3
import Derived.Shelf.LaysM
import Derived.Shelf.Strings.Shaped
section
set_option linter.unusedSimpArgs false
set_option linter.unusedVariables false
namespace Go.Proofs.Able
open Go.Am
set_option maxRecDepth 100000
theorem g1 : TI.ok Try.prog 1 (.sc .nilFunc) := ⟨fun _ => by kernel_rfl, fun _ => by kernel_rfl, fun _ => by kernel_rfl⟩
theorem g2 : TI.ok Try.prog 2 (.sc (.int .i64 0)) := ⟨fun _ => by kernel_rfl, fun _ => by kernel_rfl, fun _ => by kernel_rfl⟩
theorem g3 : TI.ok Try.prog 3 (.sc (.int .i64 0)) := ⟨fun _ => by kernel_rfl, fun _ => by kernel_rfl, fun _ => by kernel_rfl⟩
theorem g4 : TI.ok Try.prog 4 (.bl) := ⟨fun _ => by kernel_rfl, fun _ => by kernel_rfl, fun _ => by kernel_rfl, by kernel_rfl⟩
theorem g5 : TI.ok Try.prog 5 (.sc (.int .u8 0)) := ⟨fun _ => by kernel_rfl, fun _ => by kernel_rfl, fun _ => by kernel_rfl⟩
theorem g9 : TI.ok Try.prog 9 (.str) := ⟨fun _ => by kernel_rfl, fun _ => by kernel_rfl, fun _ => by kernel_rfl, by kernel_rfl⟩
theorem g12 : TI.ok Try.prog 12 (.sc (.int .u64 0)) := ⟨fun _ => by kernel_rfl, fun _ => by kernel_rfl, fun _ => by kernel_rfl⟩
theorem g15 : TI.ok Try.prog 15 (.sc (.pointer none)) := ⟨fun _ => by kernel_rfl, fun _ => by kernel_rfl, fun _ => by kernel_rfl⟩
theorem g16 : TI.ok Try.prog 16 (.sc (.pointer none)) := ⟨fun _ => by kernel_rfl, fun _ => by kernel_rfl, fun _ => by kernel_rfl⟩
theorem g17 : TI.ok Try.prog 17 (.sc (.pointer none)) := ⟨fun _ => by kernel_rfl, fun _ => by kernel_rfl, fun _ => by kernel_rfl⟩
theorem g20 : TI.ok Try.prog 20 (.sc .nilIface) := ⟨fun _ => by kernel_rfl, fun _ => by kernel_rfl, fun _ => by kernel_rfl⟩
theorem g21 : TI.ok Try.prog 21 (.sc (.int .i32 0)) := ⟨fun _ => by kernel_rfl, fun _ => by kernel_rfl, fun _ => by kernel_rfl⟩
theorem g22 : TI.ok Try.prog 22 (.sl 35 10 136) := ⟨fun _ => by kernel_rfl, fun _ => by kernel_rfl, fun _ => by kernel_rfl, fun _ => by kernel_rfl, (Try.prog.info? 35).getD default, (.agg #[(.int .i64 0), (.string ByteArray.empty), (.string ByteArray.empty), (.string ByteArray.empty), (.slice none 0 0), (.int .i64 0), (.slice none 0 0), (.int .i64 0), (.int .i64 0), (.int .i64 0)]), ⟨by kernel_rfl, by kernel_rfl, by kernel_rfl, by kernel_rfl, by kernel_rfl, by kernel_rfl⟩⟩
theorem g23 : TI.ok Try.prog 23 (.st 2 [(0, 22), (1, 3)] (Array.mk [(.slice none 0 0), (.int .i64 0)]) [1, 1]) := ⟨fun _ => by kernel_rfl, fun _ => by kernel_rfl, fun _ => by kernel_rfl, (fun f off ft h => match f, h with | 0, h => by cases h; exact ⟨fun _ _ => by kernel_rfl, fun _ _ => by kernel_rfl⟩ | 1, h => by cases h; exact ⟨fun _ _ => by kernel_rfl, fun _ _ => by kernel_rfl⟩ | (_ + 2), h => by simp at h),
    TBuild.mk (places := #[(0, 1), (1, 1)]) Try.underlying23 (fun _ => by kernel_rfl) (fun _ => by kernel_rfl) (fun i => match i with | 0 => rfl | 1 => rfl | (_ + 2) => by simp)⟩
theorem g24 : TI.ok Try.prog 24 (.st 2 [(0, 22), (1, 3)] (Array.mk [(.slice none 0 0), (.int .i64 0)]) [1, 1]) := ⟨fun _ => by kernel_rfl, fun _ => by kernel_rfl, fun _ => by kernel_rfl, (fun f off ft h => match f, h with | 0, h => by cases h; exact ⟨fun _ _ => by kernel_rfl, fun _ _ => by kernel_rfl⟩ | 1, h => by cases h; exact ⟨fun _ _ => by kernel_rfl, fun _ _ => by kernel_rfl⟩ | (_ + 2), h => by simp at h),
    TBuild.mk (places := #[(0, 1), (1, 1)]) Try.underlying24 (fun _ => by kernel_rfl) (fun _ => by kernel_rfl) (fun i => match i with | 0 => rfl | 1 => rfl | (_ + 2) => by simp)⟩
theorem g25 : TI.ok Try.prog 25 (.sc .nilFunc) := ⟨fun _ => by kernel_rfl, fun _ => by kernel_rfl, fun _ => by kernel_rfl⟩
theorem g26 : TI.ok Try.prog 26 (.sc .nilFunc) := ⟨fun _ => by kernel_rfl, fun _ => by kernel_rfl, fun _ => by kernel_rfl⟩
theorem g27 : TI.ok Try.prog 27 (.sl 3 1 8) := ⟨fun _ => by kernel_rfl, fun _ => by kernel_rfl, fun _ => by kernel_rfl, fun _ => by kernel_rfl, (Try.prog.info? 3).getD default, (.int .i64 0), ⟨by kernel_rfl, by kernel_rfl, by kernel_rfl, by kernel_rfl, by kernel_rfl, by kernel_rfl⟩⟩
theorem g28 : TI.ok Try.prog 28 (.sc .nilFunc) := ⟨fun _ => by kernel_rfl, fun _ => by kernel_rfl, fun _ => by kernel_rfl⟩
theorem g29 : TI.ok Try.prog 29 (.sc .nilFunc) := ⟨fun _ => by kernel_rfl, fun _ => by kernel_rfl, fun _ => by kernel_rfl⟩
theorem g30 : TI.ok Try.prog 30 (.sc .nilFunc) := ⟨fun _ => by kernel_rfl, fun _ => by kernel_rfl, fun _ => by kernel_rfl⟩
theorem g32 : TI.ok Try.prog 32 (.sc .nilFunc) := ⟨fun _ => by kernel_rfl, fun _ => by kernel_rfl, fun _ => by kernel_rfl⟩
theorem g33 : TI.ok Try.prog 33 (.sl 47 2 32) := ⟨fun _ => by kernel_rfl, fun _ => by kernel_rfl, fun _ => by kernel_rfl, fun _ => by kernel_rfl, (Try.prog.info? 47).getD default, (.agg #[(.string ByteArray.empty), (.string ByteArray.empty)]), ⟨by kernel_rfl, by kernel_rfl, by kernel_rfl, by kernel_rfl, by kernel_rfl, by kernel_rfl⟩⟩
theorem g34 : TI.ok Try.prog 34 (.st 10 [(0, 3), (1, 9), (2, 9), (3, 9), (4, 33), (5, 3), (6, 27), (7, 3), (8, 3), (9, 3)] (Array.mk [(.int .i64 0), (.string ByteArray.empty), (.string ByteArray.empty), (.string ByteArray.empty), (.slice none 0 0), (.int .i64 0), (.slice none 0 0), (.int .i64 0), (.int .i64 0), (.int .i64 0)]) [1, 1, 1, 1, 1, 1, 1, 1, 1, 1]) := ⟨fun _ => by kernel_rfl, fun _ => by kernel_rfl, fun _ => by kernel_rfl, (fun f off ft h => match f, h with | 0, h => by cases h; exact ⟨fun _ _ => by kernel_rfl, fun _ _ => by kernel_rfl⟩ | 1, h => by cases h; exact ⟨fun _ _ => by kernel_rfl, fun _ _ => by kernel_rfl⟩ | 2, h => by cases h; exact ⟨fun _ _ => by kernel_rfl, fun _ _ => by kernel_rfl⟩ | 3, h => by cases h; exact ⟨fun _ _ => by kernel_rfl, fun _ _ => by kernel_rfl⟩ | 4, h => by cases h; exact ⟨fun _ _ => by kernel_rfl, fun _ _ => by kernel_rfl⟩ | 5, h => by cases h; exact ⟨fun _ _ => by kernel_rfl, fun _ _ => by kernel_rfl⟩ | 6, h => by cases h; exact ⟨fun _ _ => by kernel_rfl, fun _ _ => by kernel_rfl⟩ | 7, h => by cases h; exact ⟨fun _ _ => by kernel_rfl, fun _ _ => by kernel_rfl⟩ | 8, h => by cases h; exact ⟨fun _ _ => by kernel_rfl, fun _ _ => by kernel_rfl⟩ | 9, h => by cases h; exact ⟨fun _ _ => by kernel_rfl, fun _ _ => by kernel_rfl⟩ | (_ + 10), h => by simp at h),
    TBuild.mk (places := #[(0, 1), (1, 1), (2, 1), (3, 1), (4, 1), (5, 1), (6, 1), (7, 1), (8, 1), (9, 1)]) Try.underlying34 (fun _ => by kernel_rfl) (fun _ => by kernel_rfl) (fun i => match i with | 0 => rfl | 1 => rfl | 2 => rfl | 3 => rfl | 4 => rfl | 5 => rfl | 6 => rfl | 7 => rfl | 8 => rfl | 9 => rfl | (_ + 10) => by simp)⟩
theorem g35 : TI.ok Try.prog 35 (.st 10 [(0, 3), (1, 9), (2, 9), (3, 9), (4, 33), (5, 3), (6, 27), (7, 3), (8, 3), (9, 3)] (Array.mk [(.int .i64 0), (.string ByteArray.empty), (.string ByteArray.empty), (.string ByteArray.empty), (.slice none 0 0), (.int .i64 0), (.slice none 0 0), (.int .i64 0), (.int .i64 0), (.int .i64 0)]) [1, 1, 1, 1, 1, 1, 1, 1, 1, 1]) := ⟨fun _ => by kernel_rfl, fun _ => by kernel_rfl, fun _ => by kernel_rfl, (fun f off ft h => match f, h with | 0, h => by cases h; exact ⟨fun _ _ => by kernel_rfl, fun _ _ => by kernel_rfl⟩ | 1, h => by cases h; exact ⟨fun _ _ => by kernel_rfl, fun _ _ => by kernel_rfl⟩ | 2, h => by cases h; exact ⟨fun _ _ => by kernel_rfl, fun _ _ => by kernel_rfl⟩ | 3, h => by cases h; exact ⟨fun _ _ => by kernel_rfl, fun _ _ => by kernel_rfl⟩ | 4, h => by cases h; exact ⟨fun _ _ => by kernel_rfl, fun _ _ => by kernel_rfl⟩ | 5, h => by cases h; exact ⟨fun _ _ => by kernel_rfl, fun _ _ => by kernel_rfl⟩ | 6, h => by cases h; exact ⟨fun _ _ => by kernel_rfl, fun _ _ => by kernel_rfl⟩ | 7, h => by cases h; exact ⟨fun _ _ => by kernel_rfl, fun _ _ => by kernel_rfl⟩ | 8, h => by cases h; exact ⟨fun _ _ => by kernel_rfl, fun _ _ => by kernel_rfl⟩ | 9, h => by cases h; exact ⟨fun _ _ => by kernel_rfl, fun _ _ => by kernel_rfl⟩ | (_ + 10), h => by simp at h),
    TBuild.mk (places := #[(0, 1), (1, 1), (2, 1), (3, 1), (4, 1), (5, 1), (6, 1), (7, 1), (8, 1), (9, 1)]) Try.underlying35 (fun _ => by kernel_rfl) (fun _ => by kernel_rfl) (fun i => match i with | 0 => rfl | 1 => rfl | 2 => rfl | 3 => rfl | 4 => rfl | 5 => rfl | 6 => rfl | 7 => rfl | 8 => rfl | 9 => rfl | (_ + 10) => by simp)⟩
theorem g36 : TI.ok Try.prog 36 (.sc .nilFunc) := ⟨fun _ => by kernel_rfl, fun _ => by kernel_rfl, fun _ => by kernel_rfl⟩
theorem g37 : TI.ok Try.prog 37 (.sc .nilFunc) := ⟨fun _ => by kernel_rfl, fun _ => by kernel_rfl, fun _ => by kernel_rfl⟩
theorem g38 : TI.ok Try.prog 38 (.sc (.int .i64 0)) := ⟨fun _ => by kernel_rfl, fun _ => by kernel_rfl, fun _ => by kernel_rfl⟩
theorem g40 : TI.ok Try.prog 40 (.sc .nilFunc) := ⟨fun _ => by kernel_rfl, fun _ => by kernel_rfl, fun _ => by kernel_rfl⟩
theorem g41 : TI.ok Try.prog 41 (.sc .nilFunc) := ⟨fun _ => by kernel_rfl, fun _ => by kernel_rfl, fun _ => by kernel_rfl⟩
theorem g42 : TI.ok Try.prog 42 (.st 2 [(0, 24)] (Array.mk [(.slice none 0 0), (.int .i64 0)]) [2]) := ⟨fun _ => by kernel_rfl, fun _ => by kernel_rfl, fun _ => by kernel_rfl, (fun f off ft h => match f, h with | 0, h => by cases h; exact ⟨fun _ _ => by kernel_rfl, fun _ _ => by kernel_rfl⟩ | (_ + 1), h => by simp at h),
    TBuild.mk (places := #[(0, 2)]) Try.underlying42 (fun _ => by kernel_rfl) (fun _ => by kernel_rfl) (fun i => match i with | 0 => rfl | (_ + 1) => by simp)⟩
theorem g43 : TI.ok Try.prog 43 (.st 2 [(0, 24)] (Array.mk [(.slice none 0 0), (.int .i64 0)]) [2]) := ⟨fun _ => by kernel_rfl, fun _ => by kernel_rfl, fun _ => by kernel_rfl, (fun f off ft h => match f, h with | 0, h => by cases h; exact ⟨fun _ _ => by kernel_rfl, fun _ _ => by kernel_rfl⟩ | (_ + 1), h => by simp at h),
    TBuild.mk (places := #[(0, 2)]) Try.underlying43 (fun _ => by kernel_rfl) (fun _ => by kernel_rfl) (fun i => match i with | 0 => rfl | (_ + 1) => by simp)⟩
theorem g45 : TI.ok Try.prog 45 (.sc .nilFunc) := ⟨fun _ => by kernel_rfl, fun _ => by kernel_rfl, fun _ => by kernel_rfl⟩
theorem g46 : TI.ok Try.prog 46 (.st 2 [(0, 9), (1, 9)] (Array.mk [(.string ByteArray.empty), (.string ByteArray.empty)]) [1, 1]) := ⟨fun _ => by kernel_rfl, fun _ => by kernel_rfl, fun _ => by kernel_rfl, (fun f off ft h => match f, h with | 0, h => by cases h; exact ⟨fun _ _ => by kernel_rfl, fun _ _ => by kernel_rfl⟩ | 1, h => by cases h; exact ⟨fun _ _ => by kernel_rfl, fun _ _ => by kernel_rfl⟩ | (_ + 2), h => by simp at h),
    TBuild.mk (places := #[(0, 1), (1, 1)]) Try.underlying46 (fun _ => by kernel_rfl) (fun _ => by kernel_rfl) (fun i => match i with | 0 => rfl | 1 => rfl | (_ + 2) => by simp)⟩
theorem g47 : TI.ok Try.prog 47 (.st 2 [(0, 9), (1, 9)] (Array.mk [(.string ByteArray.empty), (.string ByteArray.empty)]) [1, 1]) := ⟨fun _ => by kernel_rfl, fun _ => by kernel_rfl, fun _ => by kernel_rfl, (fun f off ft h => match f, h with | 0, h => by cases h; exact ⟨fun _ _ => by kernel_rfl, fun _ _ => by kernel_rfl⟩ | 1, h => by cases h; exact ⟨fun _ _ => by kernel_rfl, fun _ _ => by kernel_rfl⟩ | (_ + 2), h => by simp at h),
    TBuild.mk (places := #[(0, 1), (1, 1)]) Try.underlying47 (fun _ => by kernel_rfl) (fun _ => by kernel_rfl) (fun i => match i with | 0 => rfl | 1 => rfl | (_ + 2) => by simp)⟩
theorem g48 : TI.ok Try.prog 48 (.sc .nilFunc) := ⟨fun _ => by kernel_rfl, fun _ => by kernel_rfl, fun _ => by kernel_rfl⟩
theorem g50 : TI.ok Try.prog 50 (.sc .nilFunc) := ⟨fun _ => by kernel_rfl, fun _ => by kernel_rfl, fun _ => by kernel_rfl⟩
theorem g51 : TI.ok Try.prog 51 (.sc .nilFunc) := ⟨fun _ => by kernel_rfl, fun _ => by kernel_rfl, fun _ => by kernel_rfl⟩
theorem g52 : TI.ok Try.prog 52 (.sc .nilFunc) := ⟨fun _ => by kernel_rfl, fun _ => by kernel_rfl, fun _ => by kernel_rfl⟩
theorem g53 : TI.ok Try.prog 53 (.sc .nilFunc) := ⟨fun _ => by kernel_rfl, fun _ => by kernel_rfl, fun _ => by kernel_rfl⟩
theorem g54 : TI.ok Try.prog 54 (.sc .nilFunc) := ⟨fun _ => by kernel_rfl, fun _ => by kernel_rfl, fun _ => by kernel_rfl⟩
theorem g55 : TI.ok Try.prog 55 (.sc .nilFunc) := ⟨fun _ => by kernel_rfl, fun _ => by kernel_rfl, fun _ => by kernel_rfl⟩
theorem g56 : TI.ok Try.prog 56 (.sc .nilFunc) := ⟨fun _ => by kernel_rfl, fun _ => by kernel_rfl, fun _ => by kernel_rfl⟩
theorem g57 : TI.ok Try.prog 57 (.sc .nilFunc) := ⟨fun _ => by kernel_rfl, fun _ => by kernel_rfl, fun _ => by kernel_rfl⟩
theorem g58 : TI.ok Try.prog 58 (.sc .nilFunc) := ⟨fun _ => by kernel_rfl, fun _ => by kernel_rfl, fun _ => by kernel_rfl⟩
theorem g59 : TI.ok Try.prog 59 (.sc .nilFunc) := ⟨fun _ => by kernel_rfl, fun _ => by kernel_rfl, fun _ => by kernel_rfl⟩
theorem g60 : TI.ok Try.prog 60 (.sc .nilFunc) := ⟨fun _ => by kernel_rfl, fun _ => by kernel_rfl, fun _ => by kernel_rfl⟩
theorem g62 : TI.ok Try.prog 62 (.sc .nilFunc) := ⟨fun _ => by kernel_rfl, fun _ => by kernel_rfl, fun _ => by kernel_rfl⟩
theorem g63 : TI.ok Try.prog 63 (.sc .nilFunc) := ⟨fun _ => by kernel_rfl, fun _ => by kernel_rfl, fun _ => by kernel_rfl⟩
theorem g64 : TI.ok Try.prog 64 (.sc .nilFunc) := ⟨fun _ => by kernel_rfl, fun _ => by kernel_rfl, fun _ => by kernel_rfl⟩
theorem g65 : TI.ok Try.prog 65 (.sc (.pointer none)) := ⟨fun _ => by kernel_rfl, fun _ => by kernel_rfl, fun _ => by kernel_rfl⟩
theorem g66 : TI.ok Try.prog 66 (.sc .nilFunc) := ⟨fun _ => by kernel_rfl, fun _ => by kernel_rfl, fun _ => by kernel_rfl⟩
theorem g67 : TI.ok Try.prog 67 (.st 5 [(0, 24), (2, 3), (3, 9), (4, 4)] (Array.mk [(.slice none 0 0), (.int .i64 0), (.int .i64 0), (.string ByteArray.empty), (.bool false)]) [2, 1, 1, 1]) := ⟨fun _ => by kernel_rfl, fun _ => by kernel_rfl, fun _ => by kernel_rfl, (fun f off ft h => match f, h with | 0, h => by cases h; exact ⟨fun _ _ => by kernel_rfl, fun _ _ => by kernel_rfl⟩ | 1, h => by cases h; exact ⟨fun _ _ => by kernel_rfl, fun _ _ => by kernel_rfl⟩ | 2, h => by cases h; exact ⟨fun _ _ => by kernel_rfl, fun _ _ => by kernel_rfl⟩ | 3, h => by cases h; exact ⟨fun _ _ => by kernel_rfl, fun _ _ => by kernel_rfl⟩ | (_ + 4), h => by simp at h),
    TBuild.mk (places := #[(0, 2), (2, 1), (3, 1), (4, 1)]) Try.underlying67 (fun _ => by kernel_rfl) (fun _ => by kernel_rfl) (fun i => match i with | 0 => rfl | 1 => rfl | 2 => rfl | 3 => rfl | (_ + 4) => by simp)⟩
theorem g68 : TI.ok Try.prog 68 (.st 5 [(0, 24), (2, 3), (3, 9), (4, 4)] (Array.mk [(.slice none 0 0), (.int .i64 0), (.int .i64 0), (.string ByteArray.empty), (.bool false)]) [2, 1, 1, 1]) := ⟨fun _ => by kernel_rfl, fun _ => by kernel_rfl, fun _ => by kernel_rfl, (fun f off ft h => match f, h with | 0, h => by cases h; exact ⟨fun _ _ => by kernel_rfl, fun _ _ => by kernel_rfl⟩ | 1, h => by cases h; exact ⟨fun _ _ => by kernel_rfl, fun _ _ => by kernel_rfl⟩ | 2, h => by cases h; exact ⟨fun _ _ => by kernel_rfl, fun _ _ => by kernel_rfl⟩ | 3, h => by cases h; exact ⟨fun _ _ => by kernel_rfl, fun _ _ => by kernel_rfl⟩ | (_ + 4), h => by simp at h),
    TBuild.mk (places := #[(0, 2), (2, 1), (3, 1), (4, 1)]) Try.underlying68 (fun _ => by kernel_rfl) (fun _ => by kernel_rfl) (fun i => match i with | 0 => rfl | 1 => rfl | 2 => rfl | 3 => rfl | (_ + 4) => by simp)⟩
theorem g69 : TI.ok Try.prog 69 (.sc .nilFunc) := ⟨fun _ => by kernel_rfl, fun _ => by kernel_rfl, fun _ => by kernel_rfl⟩
theorem g70 : TI.ok Try.prog 70 (.sl 5 1 1) := ⟨fun _ => by kernel_rfl, fun _ => by kernel_rfl, fun _ => by kernel_rfl, fun _ => by kernel_rfl, (Try.prog.info? 5).getD default, (.int .u8 0), ⟨by kernel_rfl, by kernel_rfl, by kernel_rfl, by kernel_rfl, by kernel_rfl, by kernel_rfl⟩⟩
theorem g71 : TI.ok Try.prog 71 (.sc .nilFunc) := ⟨fun _ => by kernel_rfl, fun _ => by kernel_rfl, fun _ => by kernel_rfl⟩
theorem g72 : TI.ok Try.prog 72 (.sc .nilFunc) := ⟨fun _ => by kernel_rfl, fun _ => by kernel_rfl, fun _ => by kernel_rfl⟩
theorem g73 : TI.ok Try.prog 73 (.sc .nilFunc) := ⟨fun _ => by kernel_rfl, fun _ => by kernel_rfl, fun _ => by kernel_rfl⟩
theorem g74 : TI.ok Try.prog 74 (.sc (.map none)) := ⟨fun _ => by kernel_rfl, fun _ => by kernel_rfl, fun _ => by kernel_rfl⟩
theorem g75 : TI.ok Try.prog 75 (.sc .nilFunc) := ⟨fun _ => by kernel_rfl, fun _ => by kernel_rfl, fun _ => by kernel_rfl⟩
theorem g76 : TI.ok Try.prog 76 (.sc .nilFunc) := ⟨fun _ => by kernel_rfl, fun _ => by kernel_rfl, fun _ => by kernel_rfl⟩
theorem g77 : TI.ok Try.prog 77 (.sc .nilFunc) := ⟨fun _ => by kernel_rfl, fun _ => by kernel_rfl, fun _ => by kernel_rfl⟩
theorem g78 : TI.ok Try.prog 78 (.sc (.map none)) := ⟨fun _ => by kernel_rfl, fun _ => by kernel_rfl, fun _ => by kernel_rfl⟩
theorem g79 : TI.ok Try.prog 79 (.sc .nilFunc) := ⟨fun _ => by kernel_rfl, fun _ => by kernel_rfl, fun _ => by kernel_rfl⟩
theorem g80 : TI.ok Try.prog 80 (.sc .nilFunc) := ⟨fun _ => by kernel_rfl, fun _ => by kernel_rfl, fun _ => by kernel_rfl⟩
theorem g81 : TI.ok Try.prog 81 (.sc .nilFunc) := ⟨fun _ => by kernel_rfl, fun _ => by kernel_rfl, fun _ => by kernel_rfl⟩
theorem g82 : TI.ok Try.prog 82 (.sc .nilFunc) := ⟨fun _ => by kernel_rfl, fun _ => by kernel_rfl, fun _ => by kernel_rfl⟩
theorem g83 : TI.ok Try.prog 83 (.sc .nilFunc) := ⟨fun _ => by kernel_rfl, fun _ => by kernel_rfl, fun _ => by kernel_rfl⟩
theorem g84 : TI.ok Try.prog 84 (.sc .nilFunc) := ⟨fun _ => by kernel_rfl, fun _ => by kernel_rfl, fun _ => by kernel_rfl⟩
theorem g85 : TI.ok Try.prog 85 (.sc .nilFunc) := ⟨fun _ => by kernel_rfl, fun _ => by kernel_rfl, fun _ => by kernel_rfl⟩
theorem g86 : TI.ok Try.prog 86 (.sc .nilFunc) := ⟨fun _ => by kernel_rfl, fun _ => by kernel_rfl, fun _ => by kernel_rfl⟩
theorem g87 : TI.ok Try.prog 87 (.sl 9 1 16) := ⟨fun _ => by kernel_rfl, fun _ => by kernel_rfl, fun _ => by kernel_rfl, fun _ => by kernel_rfl, (Try.prog.info? 9).getD default, (.string ByteArray.empty), ⟨by kernel_rfl, by kernel_rfl, by kernel_rfl, by kernel_rfl, by kernel_rfl, by kernel_rfl⟩⟩
theorem g88 : TI.ok Try.prog 88 (.sc .nilFunc) := ⟨fun _ => by kernel_rfl, fun _ => by kernel_rfl, fun _ => by kernel_rfl⟩
theorem g89 : TI.ok Try.prog 89 (.sc .nilFunc) := ⟨fun _ => by kernel_rfl, fun _ => by kernel_rfl, fun _ => by kernel_rfl⟩
theorem g90 : TI.ok Try.prog 90 (.sc .nilFunc) := ⟨fun _ => by kernel_rfl, fun _ => by kernel_rfl, fun _ => by kernel_rfl⟩
theorem g91 : TI.ok Try.prog 91 (.sc (.pointer none)) := ⟨fun _ => by kernel_rfl, fun _ => by kernel_rfl, fun _ => by kernel_rfl⟩
theorem g92 : TI.ok Try.prog 92 (.st 2 [(0, 91), (1, 70)] (Array.mk [(.pointer none), (.slice none 0 0)]) [1, 1]) := ⟨fun _ => by kernel_rfl, fun _ => by kernel_rfl, fun _ => by kernel_rfl, (fun f off ft h => match f, h with | 0, h => by cases h; exact ⟨fun _ _ => by kernel_rfl, fun _ _ => by kernel_rfl⟩ | 1, h => by cases h; exact ⟨fun _ _ => by kernel_rfl, fun _ _ => by kernel_rfl⟩ | (_ + 2), h => by simp at h),
    TBuild.mk (places := #[(0, 1), (1, 1)]) Try.underlying92 (fun _ => by kernel_rfl) (fun _ => by kernel_rfl) (fun i => match i with | 0 => rfl | 1 => rfl | (_ + 2) => by simp)⟩
theorem g93 : TI.ok Try.prog 93 (.st 2 [(0, 91), (1, 70)] (Array.mk [(.pointer none), (.slice none 0 0)]) [1, 1]) := ⟨fun _ => by kernel_rfl, fun _ => by kernel_rfl, fun _ => by kernel_rfl, (fun f off ft h => match f, h with | 0, h => by cases h; exact ⟨fun _ _ => by kernel_rfl, fun _ _ => by kernel_rfl⟩ | 1, h => by cases h; exact ⟨fun _ _ => by kernel_rfl, fun _ _ => by kernel_rfl⟩ | (_ + 2), h => by simp at h),
    TBuild.mk (places := #[(0, 1), (1, 1)]) Try.underlying93 (fun _ => by kernel_rfl) (fun _ => by kernel_rfl) (fun i => match i with | 0 => rfl | 1 => rfl | (_ + 2) => by simp)⟩
theorem g94 : TI.ok Try.prog 94 (.sc .nilIface) := ⟨fun _ => by kernel_rfl, fun _ => by kernel_rfl, fun _ => by kernel_rfl⟩
theorem g95 : TI.ok Try.prog 95 (.sc .nilIface) := ⟨fun _ => by kernel_rfl, fun _ => by kernel_rfl, fun _ => by kernel_rfl⟩
theorem g96 : TI.ok Try.prog 96 (.sc .nilFunc) := ⟨fun _ => by kernel_rfl, fun _ => by kernel_rfl, fun _ => by kernel_rfl⟩
theorem g97 : TI.ok Try.prog 97 (.sc .nilFunc) := ⟨fun _ => by kernel_rfl, fun _ => by kernel_rfl, fun _ => by kernel_rfl⟩
theorem g98 : TI.ok Try.prog 98 (.sc .nilFunc) := ⟨fun _ => by kernel_rfl, fun _ => by kernel_rfl, fun _ => by kernel_rfl⟩
theorem g99 : TI.ok Try.prog 99 (.sc .nilFunc) := ⟨fun _ => by kernel_rfl, fun _ => by kernel_rfl, fun _ => by kernel_rfl⟩
theorem g100 : TI.ok Try.prog 100 (.sc (.pointer none)) := ⟨fun _ => by kernel_rfl, fun _ => by kernel_rfl, fun _ => by kernel_rfl⟩
theorem g101 : TI.ok Try.prog 101 (.sc .nilFunc) := ⟨fun _ => by kernel_rfl, fun _ => by kernel_rfl, fun _ => by kernel_rfl⟩
theorem g103 : TI.ok Try.prog 103 (.sc .nilFunc) := ⟨fun _ => by kernel_rfl, fun _ => by kernel_rfl, fun _ => by kernel_rfl⟩
theorem g104 : TI.ok Try.prog 104 (.sc .nilFunc) := ⟨fun _ => by kernel_rfl, fun _ => by kernel_rfl, fun _ => by kernel_rfl⟩
theorem g105 : TI.ok Try.prog 105 (.sc (.int .u64 0)) := ⟨fun _ => by kernel_rfl, fun _ => by kernel_rfl, fun _ => by kernel_rfl⟩
theorem g106 : TI.ok Try.prog 106 (.sc (.int .u32 0)) := ⟨fun _ => by kernel_rfl, fun _ => by kernel_rfl, fun _ => by kernel_rfl⟩
theorem g108 : TI.ok Try.prog 108 (.sc .nilFunc) := ⟨fun _ => by kernel_rfl, fun _ => by kernel_rfl, fun _ => by kernel_rfl⟩
theorem g116 : TI.ok Try.prog 116 (.sc .nilFunc) := ⟨fun _ => by kernel_rfl, fun _ => by kernel_rfl, fun _ => by kernel_rfl⟩
theorem g119 : TI.ok Try.prog 119 (.st 11 [(0, 12), (1, 12), (2, 106), (3, 114), (4, 5), (5, 5), (6, 115), (7, 116), (8, 100), (9, 117), (10, 118)] (Array.mk [(.int .u64 0), (.int .u64 0), (.int .u32 0), (.int .u8 0), (.int .u8 0), (.int .u8 0), (.int .u8 0), .nilFunc, (.pointer none), (.int .i32 0), (.int .i32 0)]) [1, 1, 1, 1, 1, 1, 1, 1, 1, 1, 1]) := ⟨fun _ => by kernel_rfl, fun _ => by kernel_rfl, fun _ => by kernel_rfl, (fun f off ft h => match f, h with | 0, h => by cases h; exact ⟨fun _ _ => by kernel_rfl, fun _ _ => by kernel_rfl⟩ | 1, h => by cases h; exact ⟨fun _ _ => by kernel_rfl, fun _ _ => by kernel_rfl⟩ | 2, h => by cases h; exact ⟨fun _ _ => by kernel_rfl, fun _ _ => by kernel_rfl⟩ | 3, h => by cases h; exact ⟨fun _ _ => by kernel_rfl, fun _ _ => by kernel_rfl⟩ | 4, h => by cases h; exact ⟨fun _ _ => by kernel_rfl, fun _ _ => by kernel_rfl⟩ | 5, h => by cases h; exact ⟨fun _ _ => by kernel_rfl, fun _ _ => by kernel_rfl⟩ | 6, h => by cases h; exact ⟨fun _ _ => by kernel_rfl, fun _ _ => by kernel_rfl⟩ | 7, h => by cases h; exact ⟨fun _ _ => by kernel_rfl, fun _ _ => by kernel_rfl⟩ | 8, h => by cases h; exact ⟨fun _ _ => by kernel_rfl, fun _ _ => by kernel_rfl⟩ | 9, h => by cases h; exact ⟨fun _ _ => by kernel_rfl, fun _ _ => by kernel_rfl⟩ | 10, h => by cases h; exact ⟨fun _ _ => by kernel_rfl, fun _ _ => by kernel_rfl⟩ | (_ + 11), h => by simp at h),
    TBuild.mk (places := #[(0, 1), (1, 1), (2, 1), (3, 1), (4, 1), (5, 1), (6, 1), (7, 1), (8, 1), (9, 1), (10, 1)]) Try.underlying119 (fun _ => by kernel_rfl) (fun _ => by kernel_rfl) (fun i => match i with | 0 => rfl | 1 => rfl | 2 => rfl | 3 => rfl | 4 => rfl | 5 => rfl | 6 => rfl | 7 => rfl | 8 => rfl | 9 => rfl | 10 => rfl | (_ + 11) => by simp)⟩
@[reducible] def G : TEnv := [(1, .sc .nilFunc), (2, .sc (.int .i64 0)), (3, .sc (.int .i64 0)), (4, .bl), (5, .sc (.int .u8 0)), (9, .str), (12, .sc (.int .u64 0)), (15, .sc (.pointer none)), (16, .sc (.pointer none)), (17, .sc (.pointer none)), (20, .sc .nilIface), (21, .sc (.int .i32 0)), (22, .sl 35 10 136), (23, .st 2 [(0, 22), (1, 3)] (Array.mk [(.slice none 0 0), (.int .i64 0)]) [1, 1]), (24, .st 2 [(0, 22), (1, 3)] (Array.mk [(.slice none 0 0), (.int .i64 0)]) [1, 1]), (25, .sc .nilFunc), (26, .sc .nilFunc), (27, .sl 3 1 8), (28, .sc .nilFunc), (29, .sc .nilFunc), (30, .sc .nilFunc), (32, .sc .nilFunc), (33, .sl 47 2 32), (34, .st 10 [(0, 3), (1, 9), (2, 9), (3, 9), (4, 33), (5, 3), (6, 27), (7, 3), (8, 3), (9, 3)] (Array.mk [(.int .i64 0), (.string ByteArray.empty), (.string ByteArray.empty), (.string ByteArray.empty), (.slice none 0 0), (.int .i64 0), (.slice none 0 0), (.int .i64 0), (.int .i64 0), (.int .i64 0)]) [1, 1, 1, 1, 1, 1, 1, 1, 1, 1]), (35, .st 10 [(0, 3), (1, 9), (2, 9), (3, 9), (4, 33), (5, 3), (6, 27), (7, 3), (8, 3), (9, 3)] (Array.mk [(.int .i64 0), (.string ByteArray.empty), (.string ByteArray.empty), (.string ByteArray.empty), (.slice none 0 0), (.int .i64 0), (.slice none 0 0), (.int .i64 0), (.int .i64 0), (.int .i64 0)]) [1, 1, 1, 1, 1, 1, 1, 1, 1, 1]), (36, .sc .nilFunc), (37, .sc .nilFunc), (38, .sc (.int .i64 0)), (40, .sc .nilFunc), (41, .sc .nilFunc), (42, .st 2 [(0, 24)] (Array.mk [(.slice none 0 0), (.int .i64 0)]) [2]), (43, .st 2 [(0, 24)] (Array.mk [(.slice none 0 0), (.int .i64 0)]) [2]), (45, .sc .nilFunc), (46, .st 2 [(0, 9), (1, 9)] (Array.mk [(.string ByteArray.empty), (.string ByteArray.empty)]) [1, 1]), (47, .st 2 [(0, 9), (1, 9)] (Array.mk [(.string ByteArray.empty), (.string ByteArray.empty)]) [1, 1]), (48, .sc .nilFunc), (50, .sc .nilFunc), (51, .sc .nilFunc), (52, .sc .nilFunc), (53, .sc .nilFunc), (54, .sc .nilFunc), (55, .sc .nilFunc), (56, .sc .nilFunc), (57, .sc .nilFunc), (58, .sc .nilFunc), (59, .sc .nilFunc), (60, .sc .nilFunc), (62, .sc .nilFunc), (63, .sc .nilFunc), (64, .sc .nilFunc), (65, .sc (.pointer none)), (66, .sc .nilFunc), (67, .st 5 [(0, 24), (2, 3), (3, 9), (4, 4)] (Array.mk [(.slice none 0 0), (.int .i64 0), (.int .i64 0), (.string ByteArray.empty), (.bool false)]) [2, 1, 1, 1]), (68, .st 5 [(0, 24), (2, 3), (3, 9), (4, 4)] (Array.mk [(.slice none 0 0), (.int .i64 0), (.int .i64 0), (.string ByteArray.empty), (.bool false)]) [2, 1, 1, 1]), (69, .sc .nilFunc), (70, .sl 5 1 1), (71, .sc .nilFunc), (72, .sc .nilFunc), (73, .sc .nilFunc), (74, .sc (.map none)), (75, .sc .nilFunc), (76, .sc .nilFunc), (77, .sc .nilFunc), (78, .sc (.map none)), (79, .sc .nilFunc), (80, .sc .nilFunc), (81, .sc .nilFunc), (82, .sc .nilFunc), (83, .sc .nilFunc), (84, .sc .nilFunc), (85, .sc .nilFunc), (86, .sc .nilFunc), (87, .sl 9 1 16), (88, .sc .nilFunc), (89, .sc .nilFunc), (90, .sc .nilFunc), (91, .sc (.pointer none)), (92, .st 2 [(0, 91), (1, 70)] (Array.mk [(.pointer none), (.slice none 0 0)]) [1, 1]), (93, .st 2 [(0, 91), (1, 70)] (Array.mk [(.pointer none), (.slice none 0 0)]) [1, 1]), (94, .sc .nilIface), (95, .sc .nilIface), (96, .sc .nilFunc), (97, .sc .nilFunc), (98, .sc .nilFunc), (99, .sc .nilFunc), (100, .sc (.pointer none)), (101, .sc .nilFunc), (103, .sc .nilFunc), (104, .sc .nilFunc), (105, .sc (.int .u64 0)), (106, .sc (.int .u32 0)), (108, .sc .nilFunc), (116, .sc .nilFunc), (119, .st 11 [(0, 12), (1, 12), (2, 106), (3, 114), (4, 5), (5, 5), (6, 115), (7, 116), (8, 100), (9, 117), (10, 118)] (Array.mk [(.int .u64 0), (.int .u64 0), (.int .u32 0), (.int .u8 0), (.int .u8 0), (.int .u8 0), (.int .u8 0), .nilFunc, (.pointer none), (.int .i32 0), (.int .i32 0)]) [1, 1, 1, 1, 1, 1, 1, 1, 1, 1, 1])]
theorem G_good : G.Good Try.prog := List.forall_mem_cons.2 ⟨g1, List.forall_mem_cons.2 ⟨g2, List.forall_mem_cons.2 ⟨g3, List.forall_mem_cons.2 ⟨g4, List.forall_mem_cons.2 ⟨g5, List.forall_mem_cons.2 ⟨g9, List.forall_mem_cons.2 ⟨g12, List.forall_mem_cons.2 ⟨g15, List.forall_mem_cons.2 ⟨g16, List.forall_mem_cons.2 ⟨g17, List.forall_mem_cons.2 ⟨g20, List.forall_mem_cons.2 ⟨g21, List.forall_mem_cons.2 ⟨g22, List.forall_mem_cons.2 ⟨g23, List.forall_mem_cons.2 ⟨g24, List.forall_mem_cons.2 ⟨g25, List.forall_mem_cons.2 ⟨g26, List.forall_mem_cons.2 ⟨g27, List.forall_mem_cons.2 ⟨g28, List.forall_mem_cons.2 ⟨g29, List.forall_mem_cons.2 ⟨g30, List.forall_mem_cons.2 ⟨g32, List.forall_mem_cons.2 ⟨g33, List.forall_mem_cons.2 ⟨g34, List.forall_mem_cons.2 ⟨g35, List.forall_mem_cons.2 ⟨g36, List.forall_mem_cons.2 ⟨g37, List.forall_mem_cons.2 ⟨g38, List.forall_mem_cons.2 ⟨g40, List.forall_mem_cons.2 ⟨g41, List.forall_mem_cons.2 ⟨g42, List.forall_mem_cons.2 ⟨g43, List.forall_mem_cons.2 ⟨g45, List.forall_mem_cons.2 ⟨g46, List.forall_mem_cons.2 ⟨g47, List.forall_mem_cons.2 ⟨g48, List.forall_mem_cons.2 ⟨g50, List.forall_mem_cons.2 ⟨g51, List.forall_mem_cons.2 ⟨g52, List.forall_mem_cons.2 ⟨g53, List.forall_mem_cons.2 ⟨g54, List.forall_mem_cons.2 ⟨g55, List.forall_mem_cons.2 ⟨g56, List.forall_mem_cons.2 ⟨g57, List.forall_mem_cons.2 ⟨g58, List.forall_mem_cons.2 ⟨g59, List.forall_mem_cons.2 ⟨g60, List.forall_mem_cons.2 ⟨g62, List.forall_mem_cons.2 ⟨g63, List.forall_mem_cons.2 ⟨g64, List.forall_mem_cons.2 ⟨g65, List.forall_mem_cons.2 ⟨g66, List.forall_mem_cons.2 ⟨g67, List.forall_mem_cons.2 ⟨g68, List.forall_mem_cons.2 ⟨g69, List.forall_mem_cons.2 ⟨g70, List.forall_mem_cons.2 ⟨g71, List.forall_mem_cons.2 ⟨g72, List.forall_mem_cons.2 ⟨g73, List.forall_mem_cons.2 ⟨g74, List.forall_mem_cons.2 ⟨g75, List.forall_mem_cons.2 ⟨g76, List.forall_mem_cons.2 ⟨g77, List.forall_mem_cons.2 ⟨g78, List.forall_mem_cons.2 ⟨g79, List.forall_mem_cons.2 ⟨g80, List.forall_mem_cons.2 ⟨g81, List.forall_mem_cons.2 ⟨g82, List.forall_mem_cons.2 ⟨g83, List.forall_mem_cons.2 ⟨g84, List.forall_mem_cons.2 ⟨g85, List.forall_mem_cons.2 ⟨g86, List.forall_mem_cons.2 ⟨g87, List.forall_mem_cons.2 ⟨g88, List.forall_mem_cons.2 ⟨g89, List.forall_mem_cons.2 ⟨g90, List.forall_mem_cons.2 ⟨g91, List.forall_mem_cons.2 ⟨g92, List.forall_mem_cons.2 ⟨g93, List.forall_mem_cons.2 ⟨g94, List.forall_mem_cons.2 ⟨g95, List.forall_mem_cons.2 ⟨g96, List.forall_mem_cons.2 ⟨g97, List.forall_mem_cons.2 ⟨g98, List.forall_mem_cons.2 ⟨g99, List.forall_mem_cons.2 ⟨g100, List.forall_mem_cons.2 ⟨g101, List.forall_mem_cons.2 ⟨g103, List.forall_mem_cons.2 ⟨g104, List.forall_mem_cons.2 ⟨g105, List.forall_mem_cons.2 ⟨g106, List.forall_mem_cons.2 ⟨g108, List.forall_mem_cons.2 ⟨g116, List.forall_mem_cons.2 ⟨g119, (fun _ h => by simp at h)⟩⟩⟩⟩⟩⟩⟩⟩⟩⟩⟩⟩⟩⟩⟩⟩⟩⟩⟩⟩⟩⟩⟩⟩⟩⟩⟩⟩⟩⟩⟩⟩⟩⟩⟩⟩⟩⟩⟩⟩⟩⟩⟩⟩⟩⟩⟩⟩⟩⟩⟩⟩⟩⟩⟩⟩⟩⟩⟩⟩⟩⟩⟩⟩⟩⟩⟩⟩⟩⟩⟩⟩⟩⟩⟩⟩⟩⟩⟩⟩⟩⟩⟩⟩⟩⟩⟩⟩⟩⟩⟩⟩⟩⟩
theorem c3 : Callable Try.prog 3 := fun _ _ => by kernel_rfl
theorem c4 : Callable Try.prog 4 := fun _ _ => by kernel_rfl
theorem c5 : Callable Try.prog 5 := fun _ _ => by kernel_rfl
theorem c6 : Callable Try.prog 6 := fun _ _ => by kernel_rfl
theorem c7 : Callable Try.prog 7 := fun _ _ => by kernel_rfl
theorem c8 : Callable Try.prog 8 := fun _ _ => by kernel_rfl
theorem c9 : Callable Try.prog 9 := fun _ _ => by kernel_rfl
theorem c10 : Callable Try.prog 10 := fun _ _ => by kernel_rfl
theorem c11 : Callable Try.prog 11 := fun _ _ => by kernel_rfl
theorem c12 : Callable Try.prog 12 := fun _ _ => by kernel_rfl
theorem c13 : Callable Try.prog 13 := fun _ _ => by kernel_rfl
theorem c14 : Callable Try.prog 14 := fun _ _ => by kernel_rfl
theorem c15 : Callable Try.prog 15 := fun _ _ => by kernel_rfl
theorem c16 : Callable Try.prog 16 := fun _ _ => by kernel_rfl
theorem c17 : Callable Try.prog 17 := fun _ _ => by kernel_rfl
theorem c18 : Callable Try.prog 18 := fun _ _ => by kernel_rfl
theorem c19 : Callable Try.prog 19 := fun _ _ => by kernel_rfl
theorem c20 : Callable Try.prog 20 := fun _ _ => by kernel_rfl
theorem c21 : Callable Try.prog 21 := fun _ _ => by kernel_rfl
theorem c22 : Callable Try.prog 22 := fun _ _ => by kernel_rfl
theorem c24 : Callable Try.prog 24 := fun _ _ => by kernel_rfl
theorem c25 : Callable Try.prog 25 := fun _ _ => by kernel_rfl
theorem c26 : Callable Try.prog 26 := fun _ _ => by kernel_rfl
theorem c27 : Callable Try.prog 27 := fun _ _ => by kernel_rfl
theorem c28 : Callable Try.prog 28 := fun _ _ => by kernel_rfl
theorem c29 : Callable Try.prog 29 := fun _ _ => by kernel_rfl
theorem c30 : Callable Try.prog 30 := fun _ _ => by kernel_rfl
theorem c31 : Callable Try.prog 31 := fun _ _ => by kernel_rfl
theorem c32 : Callable Try.prog 32 := fun _ _ => by kernel_rfl
theorem c33 : Callable Try.prog 33 := fun _ _ => by kernel_rfl
theorem c34 : Callable Try.prog 34 := fun _ _ => by kernel_rfl
theorem c35 : Callable Try.prog 35 := fun _ _ => by kernel_rfl
theorem c36 : Callable Try.prog 36 := fun _ _ => by kernel_rfl
theorem c37 : Callable Try.prog 37 := fun _ _ => by kernel_rfl
theorem c38 : Callable Try.prog 38 := fun _ _ => by kernel_rfl
theorem c44 : Callable Try.prog 44 := fun _ _ => by kernel_rfl
theorem c45 : Callable Try.prog 45 := fun _ _ => by kernel_rfl
theorem c46 : Callable Try.prog 46 := fun _ _ => by kernel_rfl
theorem c47 : Callable Try.prog 47 := fun _ _ => by kernel_rfl
theorem c48 : Callable Try.prog 48 := fun _ _ => by kernel_rfl
theorem c50 : Callable Try.prog 50 := fun _ _ => by kernel_rfl
theorem c51 : Callable Try.prog 51 := fun _ _ => by kernel_rfl
theorem c53 : Callable Try.prog 53 := fun _ _ => by kernel_rfl
theorem c54 : Callable Try.prog 54 := fun _ _ => by kernel_rfl
theorem c56 : Callable Try.prog 56 := fun _ _ => by kernel_rfl
theorem c57 : Callable Try.prog 57 := fun _ _ => by kernel_rfl
theorem c59 : Callable Try.prog 59 := fun _ _ => by kernel_rfl
theorem c60 : Callable Try.prog 60 := fun _ _ => by kernel_rfl
theorem c61 : Callable Try.prog 61 := fun _ _ => by kernel_rfl
theorem c62 : Callable Try.prog 62 := fun _ _ => by kernel_rfl
theorem c63 : Callable Try.prog 63 := fun _ _ => by kernel_rfl
theorem c64 : Callable Try.prog 64 := fun _ _ => by kernel_rfl
theorem c65 : Callable Try.prog 65 := fun _ _ => by kernel_rfl
theorem c71 : Callable Try.prog 71 := fun _ _ => by kernel_rfl
theorem c72 : Callable Try.prog 72 := fun _ _ => by kernel_rfl
theorem c73 : Callable Try.prog 73 := fun _ _ => by kernel_rfl
theorem c74 : Callable Try.prog 74 := fun _ _ => by kernel_rfl
theorem c75 : Callable Try.prog 75 := fun _ _ => by kernel_rfl
theorem c76 : Callable Try.prog 76 := fun _ _ => by kernel_rfl
theorem c77 : Callable Try.prog 77 := fun _ _ => by kernel_rfl
theorem c78 : Callable Try.prog 78 := fun _ _ => by kernel_rfl
theorem c79 : Callable Try.prog 79 := fun _ _ => by kernel_rfl
theorem c80 : Callable Try.prog 80 := fun _ _ => by kernel_rfl
theorem c85 : Callable Try.prog 85 := fun _ _ => by kernel_rfl
theorem c87 : Callable Try.prog 87 := fun _ _ => by kernel_rfl
theorem c88 : Callable Try.prog 88 := fun _ _ => by kernel_rfl
theorem c93 : Callable Try.prog 93 := fun _ _ => by kernel_rfl
theorem c23 : Callable Try.prog 23 := fun _ _ => by kernel_rfl
theorem c39 : Callable Try.prog 39 := fun _ _ => by kernel_rfl
theorem c40 : Callable Try.prog 40 := fun _ _ => by kernel_rfl
theorem c41 : Callable Try.prog 41 := fun _ _ => by kernel_rfl
theorem c42 : Callable Try.prog 42 := fun _ _ => by kernel_rfl
theorem c43 : Callable Try.prog 43 := fun _ _ => by kernel_rfl
theorem c49 : Callable Try.prog 49 := fun _ _ => by kernel_rfl
theorem c52 : Callable Try.prog 52 := fun _ _ => by kernel_rfl
theorem c55 : Callable Try.prog 55 := fun _ _ => by kernel_rfl
theorem c58 : Callable Try.prog 58 := fun _ _ => by kernel_rfl
theorem c66 : Callable Try.prog 66 := fun _ _ => by kernel_rfl
theorem c67 : Callable Try.prog 67 := fun _ _ => by kernel_rfl
theorem c68 : Callable Try.prog 68 := fun _ _ => by kernel_rfl
theorem c69 : Callable Try.prog 69 := fun _ _ => by kernel_rfl
theorem c70 : Callable Try.prog 70 := fun _ _ => by kernel_rfl
theorem c81 : Callable Try.prog 81 := fun _ _ => by kernel_rfl
theorem c82 : Callable Try.prog 82 := fun _ _ => by kernel_rfl
theorem c83 : Callable Try.prog 83 := fun _ _ => by kernel_rfl
theorem c89 : Callable Try.prog 89 := fun _ _ => by kernel_rfl
end Go.Proofs.Able
end
section
set_option linter.unusedSimpArgs false
set_option linter.unusedVariables false
namespace Go.Proofs.Able
open Go Go.Am
set_option maxRecDepth 100000
theorem mt74 : MapTy Try.prog 74 (.int .i64) (.int .i64 0) := ⟨3, 3, by kernel_rfl, by kernel_rfl, fun w => Try.zeroValue3 w⟩
theorem mt78 : MapTy Try.prog 78 .string (.agg #[.string ByteArray.empty, .string ByteArray.empty]) := ⟨9, 47, by kernel_rfl, by kernel_rfl, fun w => Try.zeroValue47 w⟩
noncomputable def fnsT : List (Nat × Func) := [(5, Try.f5), (6, Try.f6), (7, Try.f7), (9, Try.f9), (10, Try.f10), (13, Try.f13), (14, Try.f14), (15, Try.f15), (16, Try.f16), (17, Try.f17), (18, Try.f18), (20, Try.f20), (23, Try.f23), (24, Try.f24), (25, Try.f25), (26, Try.f26), (27, Try.f27), (28, Try.f28), (34, Try.f34), (35, Try.f35), (38, Try.f38), (39, Try.f39), (40, Try.f40), (41, Try.f41), (42, Try.f42), (43, Try.f43), (44, Try.f44), (45, Try.f45), (46, Try.f46), (47, Try.f47), (48, Try.f48), (49, Try.f49), (50, Try.f50), (51, Try.f51), (52, Try.f52), (54, Try.f54), (55, Try.f55), (56, Try.f56), (57, Try.f57), (58, Try.f58), (59, Try.f59), (60, Try.f60), (61, Try.f61), (62, Try.f62), (63, Try.f63), (64, Try.f64), (65, Try.f65), (66, Try.f66), (67, Try.f67), (68, Try.f68), (69, Try.f69), (70, Try.f70), (73, Try.f73), (75, Try.f75), (76, Try.f76), (77, Try.f77), (79, Try.f79), (80, Try.f80), (81, Try.f81), (82, Try.f82), (87, Try.f87), (88, Try.f88), (89, Try.f89), (93, Try.f93)]
def kindsT : List (Nat × IntKind) := [(3, .i64), (5, .u8), (21, .i32), (38, .i64)]
def mapsT : MEnv := [(74, .int .i64, .int .i64 0), (78, .string, .agg #[.string ByteArray.empty, .string ByteArray.empty])]
theorem fnsT_ok : ∀ p ∈ fnsT, Try.prog.funcs[p.1]? = some p.2 ∧ Callable Try.prog p.1 := List.forall_mem_cons.2 ⟨⟨Try.func5, c5⟩, List.forall_mem_cons.2 ⟨⟨Try.func6, c6⟩, List.forall_mem_cons.2 ⟨⟨Try.func7, c7⟩, List.forall_mem_cons.2 ⟨⟨Try.func9, c9⟩, List.forall_mem_cons.2 ⟨⟨Try.func10, c10⟩, List.forall_mem_cons.2 ⟨⟨Try.func13, c13⟩, List.forall_mem_cons.2 ⟨⟨Try.func14, c14⟩, List.forall_mem_cons.2 ⟨⟨Try.func15, c15⟩, List.forall_mem_cons.2 ⟨⟨Try.func16, c16⟩, List.forall_mem_cons.2 ⟨⟨Try.func17, c17⟩, List.forall_mem_cons.2 ⟨⟨Try.func18, c18⟩, List.forall_mem_cons.2 ⟨⟨Try.func20, c20⟩, List.forall_mem_cons.2 ⟨⟨Try.func23, c23⟩, List.forall_mem_cons.2 ⟨⟨Try.func24, c24⟩, List.forall_mem_cons.2 ⟨⟨Try.func25, c25⟩, List.forall_mem_cons.2 ⟨⟨Try.func26, c26⟩, List.forall_mem_cons.2 ⟨⟨Try.func27, c27⟩, List.forall_mem_cons.2 ⟨⟨Try.func28, c28⟩, List.forall_mem_cons.2 ⟨⟨Try.func34, c34⟩, List.forall_mem_cons.2 ⟨⟨Try.func35, c35⟩, List.forall_mem_cons.2 ⟨⟨Try.func38, c38⟩, List.forall_mem_cons.2 ⟨⟨Try.func39, c39⟩, List.forall_mem_cons.2 ⟨⟨Try.func40, c40⟩, List.forall_mem_cons.2 ⟨⟨Try.func41, c41⟩, List.forall_mem_cons.2 ⟨⟨Try.func42, c42⟩, List.forall_mem_cons.2 ⟨⟨Try.func43, c43⟩, List.forall_mem_cons.2 ⟨⟨Try.func44, c44⟩, List.forall_mem_cons.2 ⟨⟨Try.func45, c45⟩, List.forall_mem_cons.2 ⟨⟨Try.func46, c46⟩, List.forall_mem_cons.2 ⟨⟨Try.func47, c47⟩, List.forall_mem_cons.2 ⟨⟨Try.func48, c48⟩, List.forall_mem_cons.2 ⟨⟨Try.func49, c49⟩, List.forall_mem_cons.2 ⟨⟨Try.func50, c50⟩, List.forall_mem_cons.2 ⟨⟨Try.func51, c51⟩, List.forall_mem_cons.2 ⟨⟨Try.func52, c52⟩, List.forall_mem_cons.2 ⟨⟨Try.func54, c54⟩, List.forall_mem_cons.2 ⟨⟨Try.func55, c55⟩, List.forall_mem_cons.2 ⟨⟨Try.func56, c56⟩, List.forall_mem_cons.2 ⟨⟨Try.func57, c57⟩, List.forall_mem_cons.2 ⟨⟨Try.func58, c58⟩, List.forall_mem_cons.2 ⟨⟨Try.func59, c59⟩, List.forall_mem_cons.2 ⟨⟨Try.func60, c60⟩, List.forall_mem_cons.2 ⟨⟨Try.func61, c61⟩, List.forall_mem_cons.2 ⟨⟨Try.func62, c62⟩, List.forall_mem_cons.2 ⟨⟨Try.func63, c63⟩, List.forall_mem_cons.2 ⟨⟨Try.func64, c64⟩, List.forall_mem_cons.2 ⟨⟨Try.func65, c65⟩, List.forall_mem_cons.2 ⟨⟨Try.func66, c66⟩, List.forall_mem_cons.2 ⟨⟨Try.func67, c67⟩, List.forall_mem_cons.2 ⟨⟨Try.func68, c68⟩, List.forall_mem_cons.2 ⟨⟨Try.func69, c69⟩, List.forall_mem_cons.2 ⟨⟨Try.func70, c70⟩, List.forall_mem_cons.2 ⟨⟨Try.func73, c73⟩, List.forall_mem_cons.2 ⟨⟨Try.func75, c75⟩, List.forall_mem_cons.2 ⟨⟨Try.func76, c76⟩, List.forall_mem_cons.2 ⟨⟨Try.func77, c77⟩, List.forall_mem_cons.2 ⟨⟨Try.func79, c79⟩, List.forall_mem_cons.2 ⟨⟨Try.func80, c80⟩, List.forall_mem_cons.2 ⟨⟨Try.func81, c81⟩, List.forall_mem_cons.2 ⟨⟨Try.func82, c82⟩, List.forall_mem_cons.2 ⟨⟨Try.func87, c87⟩, List.forall_mem_cons.2 ⟨⟨Try.func88, c88⟩, List.forall_mem_cons.2 ⟨⟨Try.func89, c89⟩, List.forall_mem_cons.2 ⟨⟨Try.func93, c93⟩, (fun _ h => by simp at h)⟩⟩⟩⟩⟩⟩⟩⟩⟩⟩⟩⟩⟩⟩⟩⟩⟩⟩⟩⟩⟩⟩⟩⟩⟩⟩⟩⟩⟩⟩⟩⟩⟩⟩⟩⟩⟩⟩⟩⟩⟩⟩⟩⟩⟩⟩⟩⟩⟩⟩⟩⟩⟩⟩⟩⟩⟩⟩⟩⟩⟩⟩⟩⟩
theorem kindsT_ok : ∀ p ∈ kindsT, Try.prog.underlying p.1 = some (.int p.2) := List.forall_mem_cons.2 ⟨by kernel_rfl, List.forall_mem_cons.2 ⟨by kernel_rfl, List.forall_mem_cons.2 ⟨by kernel_rfl, List.forall_mem_cons.2 ⟨by kernel_rfl, fun _ h => by simp at h⟩⟩⟩⟩
theorem mapsT_ok : MEnv.Good Try.prog mapsT := List.forall_mem_cons.2 ⟨mt74, List.forall_mem_cons.2 ⟨mt78, fun _ h => by simp at h⟩⟩
end Go.Proofs.Able
end
section
set_option linter.unusedSimpArgs false
set_option linter.unusedVariables false
namespace Go.Proofs.Able
open Go.Am
set_option maxRecDepth 100000
def smallC (c : Int) : Bool := decide (97 ≤ c) && decide (c ≤ 122)
def capC (c : Int) : Bool := decide (65 ≤ c) && decide (c ≤ 90)
def signC (c : Int) : Bool := smallC c || capC c || (decide (48 ≤ c) && decide (c ≤ 57)) || decide (c = 45) || decide (c = 95) || decide (c = 46)
@[reducible] def eRune (c : Int) : AV := .lit (.int .i32 c)
@[reducible] def eBool (b : Bool) : AV := .lit (.bool b)
@[reducible] def eStr (s : ByteArray) : AV := .lit (.string s)
@[reducible] def eInt (n : Int) : AV := .lit (.int .i64 n)
theorem f71_ok (c : Int) : FnOK Try.prog 71 [] [eRune c] [] (eBool (smallC c)) := by
  refine FnOK.startC (rvs := [.tmp 2]) G G_good Try.func71 rfl Try.ntmps71 rfl rfl ?_; delta List.toArray; ((with_reducible conv => whnf); (with_reducible conv => congr <;> reduce); repeat ((first | (with_reducible refine HaltK.mk ?_) | (with_reducible refine StopK.mk ?_)); (with_reducible conv => whnf); (with_reducible conv => congr <;> reduce)))
  refine IfK.mk (fun h => ?_) (fun h => ?_) <;> (try simp only [castN] at h) <;> ((with_reducible conv => whnf); (with_reducible conv => congr <;> reduce); repeat ((first | (with_reducible refine HaltK.mk ?_) | (with_reducible refine StopK.mk ?_)); (with_reducible conv => whnf); (with_reducible conv => congr <;> reduce)))
  · refine ⟨⟨rfl, rfl⟩, ?_, ?_⟩ <;> (with_reducible conv => whnf) <;> repeat' (first | (with_reducible exact trivial) | (with_reducible refine And.intro ?_ ?_ <;> with_reducible conv => whnf))
    unfold smallC
    simp at h; simp [h]
  · refine ⟨⟨rfl, rfl⟩, ?_, ?_⟩ <;> (with_reducible conv => whnf) <;> repeat' (first | (with_reducible exact trivial) | (with_reducible refine And.intro ?_ ?_ <;> with_reducible conv => whnf))
    unfold smallC
    simp at h; simp; omega
theorem f73_ok (c : Int) : FnOK Try.prog 73 [] [eRune c] [] (eBool (capC c)) := by
  refine FnOK.startC (rvs := [.tmp 2]) G G_good Try.func73 rfl Try.ntmps73 rfl rfl ?_; delta List.toArray; ((with_reducible conv => whnf); (with_reducible conv => congr <;> reduce); repeat ((first | (with_reducible refine HaltK.mk ?_) | (with_reducible refine StopK.mk ?_)); (with_reducible conv => whnf); (with_reducible conv => congr <;> reduce)))
  refine IfK.mk (fun h => ?_) (fun h => ?_) <;> (try simp only [castN] at h) <;> ((with_reducible conv => whnf); (with_reducible conv => congr <;> reduce); repeat ((first | (with_reducible refine HaltK.mk ?_) | (with_reducible refine StopK.mk ?_)); (with_reducible conv => whnf); (with_reducible conv => congr <;> reduce)))
  · refine ⟨⟨rfl, rfl⟩, ?_, ?_⟩ <;> (with_reducible conv => whnf) <;> repeat' (first | (with_reducible exact trivial) | (with_reducible refine And.intro ?_ ?_ <;> with_reducible conv => whnf))
    unfold capC
    simp at h; simp [h]
  · refine ⟨⟨rfl, rfl⟩, ?_, ?_⟩ <;> (with_reducible conv => whnf) <;> repeat' (first | (with_reducible exact trivial) | (with_reducible refine And.intro ?_ ?_ <;> with_reducible conv => whnf))
    unfold capC
    simp at h; simp; omega
theorem f79_ok (c : Int) : FnOK Try.prog 79 [] [eRune c] [] (eBool (signC c)) := by
  refine FnOK.startC (rvs := [.tmp 2]) G G_good Try.func79 rfl Try.ntmps79 rfl rfl ?_; delta List.toArray; ((with_reducible conv => whnf); (with_reducible conv => congr <;> reduce); repeat ((first | (with_reducible refine HaltK.mk ?_) | (with_reducible refine StopK.mk ?_)); (with_reducible conv => whnf); (with_reducible conv => congr <;> reduce)))
  refine CallK.lit [] (f71_ok c) c71 ⟨rfl, trivial⟩ rfl rfl ?_; ((with_reducible conv => whnf); (with_reducible conv => congr <;> reduce); repeat ((first | (with_reducible refine HaltK.mk ?_) | (with_reducible refine StopK.mk ?_)); (with_reducible conv => whnf); (with_reducible conv => congr <;> reduce)))
  repeat' (first
    | ((with_reducible show IfK _ _ _ _); first
      | (refine IfK.yes (by assumption) ?_; ((with_reducible conv => whnf); (with_reducible conv => congr <;> reduce); repeat ((first | (with_reducible refine HaltK.mk ?_) | (with_reducible refine StopK.mk ?_)); (with_reducible conv => whnf); (with_reducible conv => congr <;> reduce))))
      | (refine IfK.no (by assumption) ?_; ((with_reducible conv => whnf); (with_reducible conv => congr <;> reduce); repeat ((first | (with_reducible refine HaltK.mk ?_) | (with_reducible refine StopK.mk ?_)); (with_reducible conv => whnf); (with_reducible conv => congr <;> reduce))))
      | (with_reducible refine IfK.yes Bool.not_false ?_; ((with_reducible conv => whnf); (with_reducible conv => congr <;> reduce); repeat ((first | (with_reducible refine HaltK.mk ?_) | (with_reducible refine StopK.mk ?_)); (with_reducible conv => whnf); (with_reducible conv => congr <;> reduce))))
      | (with_reducible refine IfK.no Bool.not_true ?_; ((with_reducible conv => whnf); (with_reducible conv => congr <;> reduce); repeat ((first | (with_reducible refine HaltK.mk ?_) | (with_reducible refine StopK.mk ?_)); (with_reducible conv => whnf); (with_reducible conv => congr <;> reduce))))
      | (with_reducible refine IfK.yes (nf (by assumption)) ?_; ((with_reducible conv => whnf); (with_reducible conv => congr <;> reduce); repeat ((first | (with_reducible refine HaltK.mk ?_) | (with_reducible refine StopK.mk ?_)); (with_reducible conv => whnf); (with_reducible conv => congr <;> reduce))))
      | (with_reducible refine IfK.no (nt (by assumption)) ?_; ((with_reducible conv => whnf); (with_reducible conv => congr <;> reduce); repeat ((first | (with_reducible refine HaltK.mk ?_) | (with_reducible refine StopK.mk ?_)); (with_reducible conv => whnf); (with_reducible conv => congr <;> reduce))))
      | (with_reducible refine IfK.tt ?_; ((with_reducible conv => whnf); (with_reducible conv => congr <;> reduce); repeat ((first | (with_reducible refine HaltK.mk ?_) | (with_reducible refine StopK.mk ?_)); (with_reducible conv => whnf); (with_reducible conv => congr <;> reduce))))
      | (with_reducible refine IfK.ff ?_; ((with_reducible conv => whnf); (with_reducible conv => congr <;> reduce); repeat ((first | (with_reducible refine HaltK.mk ?_) | (with_reducible refine StopK.mk ?_)); (with_reducible conv => whnf); (with_reducible conv => congr <;> reduce))))
      | (refine IfK.mk (fun _ => ?_) (fun _ => ?_) <;> ((with_reducible conv => whnf); (with_reducible conv => congr <;> reduce); repeat ((first | (with_reducible refine HaltK.mk ?_) | (with_reducible refine StopK.mk ?_)); (with_reducible conv => whnf); (with_reducible conv => congr <;> reduce)))))
    | ((with_reducible show CallK _ _ 73 _ _ _ _); refine CallK.lit [] (f73_ok c) c73 ⟨rfl, trivial⟩ rfl rfl ?_; ((with_reducible conv => whnf); (with_reducible conv => congr <;> reduce); repeat ((first | (with_reducible refine HaltK.mk ?_) | (with_reducible refine StopK.mk ?_)); (with_reducible conv => whnf); (with_reducible conv => congr <;> reduce))))
    | ((with_reducible show (_ ∧ _) ∧ _ ∧ _); refine ⟨⟨rfl, rfl⟩, ?_, ?_⟩ <;> (with_reducible conv => whnf) <;> repeat' (first | (with_reducible exact trivial) | (with_reducible refine And.intro ?_ ?_ <;> with_reducible conv => whnf))))
  all_goals (simp_all [signC, smallC, capC] <;> omega)
theorem f78_ok (c : Int) : FnOK Try.prog 78 [] [eRune c] [] (eBool (!signC c)) := by
  refine FnOK.startC (rvs := [.tmp 2]) G G_good Try.func78 rfl Try.ntmps78 rfl rfl ?_; delta List.toArray; ((with_reducible conv => whnf); (with_reducible conv => congr <;> reduce); repeat ((first | (with_reducible refine HaltK.mk ?_) | (with_reducible refine StopK.mk ?_)); (with_reducible conv => whnf); (with_reducible conv => congr <;> reduce)))
  refine CallK.lit [] (f79_ok c) c79 ⟨rfl, trivial⟩ rfl rfl ?_; ((with_reducible conv => whnf); (with_reducible conv => congr <;> reduce); repeat ((first | (with_reducible refine HaltK.mk ?_) | (with_reducible refine StopK.mk ?_)); (with_reducible conv => whnf); (with_reducible conv => congr <;> reduce)))
  refine ⟨⟨rfl, rfl⟩, ?_, ?_⟩ <;> (with_reducible conv => whnf) <;> repeat' (first | (with_reducible exact trivial) | (with_reducible refine And.intro ?_ ?_ <;> with_reducible conv => whnf))
open Go.RowKit Go.Lib in
set_option maxHeartbeats 2000000 in
theorem f91_calls (g : Nat) (eg : ∀ args w, (callFunc g args).run Try.prog w = .ok (.enter g args) w) (p : Nat → Bool) (s : ByteArray) (w : World) (ht : Tabs Try.prog w fun _ => none) (hp : ∀ (W : World) (x : Nat), (Tabs Try.prog W fun _ => none) → x ≤ 1114111 → Calls Try.prog g #[.int .i32 (x : Int)] W fun e w' => e = .returned (.bool (p x)) ∧ Below W.heap.size W w') :
    Calls Try.prog 91 #[.string s, .func (.func g) #[] #[], .bool true] w fun e w' => e = .returned (.int .i64 (Lib.idxFunc p true s)) ∧ Below w.heap.size w w' := by
  go_enter Try.func91, Try.ntmps91
  go_wp2
  go_loopg [] s.size (fun gf wx => ∃ pos : Nat, wx.heap[w.heap.size]? = some (.stringIter s pos) ∧ Below w.heap.size w wx ∧ Lib.idxFuncFrom p true s gf pos = Lib.idxFunc p true s ∧ s.size ≤ pos + gf)
  case atStart => exact ⟨0, World.iter_heap w s 0, (Below.refl _ w).alloc (Nat.le_refl _) _, rfl, by omega⟩
  case round =>
    obtain ⟨pos, hit, hbw, hleft, hfu⟩ := hrel
    by_cases hps : pos < s.size
    · obtain ⟨g', rfl⟩ : ∃ g', gk = g' + 1 := ⟨gk - 1, by omega⟩
      have hnx : ∀ ty, (Instr.next (.pointer (some ⟨w.heap.size, 0, none⟩)) true ty).run Try.prog wr = _ := fun ty => Lib.run_next_any_at wr w.heap.size s pos ty hit hps
      have hwd := Lib.width_pos s pos
      obtain ⟨R, hR⟩ : ∃ R, (Utf8.decode s pos).1 = R := ⟨_, rfl⟩
      obtain ⟨K, hK⟩ : ∃ K, (Utf8.decode s pos).2 = K := ⟨_, rfl⟩
      simp only [Lib.idxFuncFrom, hps, if_true, hR, hK] at hleft
      rw [hR, hK] at hnx
      rw [hK] at hwd
      have hit2 := Lib.iterAt_heap wr w.heap.size s pos (pos + K) hit
      have hbw2 := Lib.below_iterAt hbw (k := w.heap.size) (Nat.le_refl _) s (pos + K)
      obtain ⟨W, hWd⟩ : ∃ W, wr.iterAt w.heap.size s (pos + K) = W := ⟨_, rfl⟩
      rw [hWd] at hnx hit2 hbw2
      have hltW : w.heap.size < W.heap.size := (Array.getElem?_eq_some_iff.1 hit2).1
      have cS : Calls Try.prog g #[.int .i32 (R : Int)] W _   := hp W R (ht.below hbw2) (by rw [← hR]; exact Lib.rune_le s pos)
      clear hp
      cases hsp : p R <;> rw [hsp] at cS <;> simp only [hsp, if_true, Bool.false_eq_true, Bool.true_eq_false, if_false] at hleft
      · go_wp2_with (go_at_fn g; refine cS.mono ?_; rintro e W' ⟨rfl, hbc⟩)
        go_roundg g'
        case measure => omega
        case rel => exact ⟨pos + K, (hbc.block _ hltW).trans hit2, (hbw2.trans (hbc.mono hbw2.size)), hleft, by omega⟩
      · go_wp2_with (go_at_fn g; refine cS.mono ?_; rintro e W' ⟨rfl, hbc⟩)
        go_ret
        exact ⟨by rw [← hleft] <;> rfl, (hbw2.trans (hbc.mono hbw2.size))⟩
    · have hnx : ∀ ty, (Instr.next (.pointer (some ⟨w.heap.size, 0, none⟩)) true ty).run Try.prog wr = _ := fun ty => Lib.run_next_end_at wr w.heap.size s pos ty hit hps
      rw [Lib.idxFuncFrom_end p true s gk pos hps] at hleft
      go_wp2
      go_ret
      exact ⟨by rw [← hleft] <;> rfl, hbw⟩
end Go.Proofs.Able
end
section
set_option linter.unusedSimpArgs false
set_option linter.unusedVariables false
namespace Go.Proofs.Able
open Go.Am Go.RowKit Go.Lib
set_option maxRecDepth 100000
def lowB (c : UInt8) : UInt8 := if capC (c.toNat : Int) then c + 32 else c
def lowL (l : List UInt8) : List UInt8 := l.map lowB
def lowS (s : ByteArray) : ByteArray := ⟨(lowL s.data.toList).toArray⟩
def midL (l : List UInt8) (k : Nat) : List UInt8 := (l.take k).map lowB ++ l.drop k
theorem midL_len (l : List UInt8) (k : Nat) : (midL l k).length = l.length := by simp [midL]; omega
theorem midL_get (l : List UInt8) (k : Nat) (h : k < l.length) : (midL l k)[k]? = some l[k] := by
  simp [midL, List.getElem?_append, List.getElem?_drop, Nat.min_eq_left (Nat.le_of_lt h), h]
theorem midL_set (l : List UInt8) (k : Nat) (h : k < l.length) : (midL l k).set k (lowB l[k]) = midL l (k + 1) := by
  unfold midL
  have h1 : ((l.take k).map lowB).length = k := by simp; omega
  rw [List.set_append_right _ _ (by omega), h1, Nat.sub_self, List.take_succ_eq_append_getElem h, List.drop_eq_getElem_cons h]
  simp only [List.set_cons_zero, List.map_append, List.map_cons, List.map_nil, List.append_assoc, List.cons_append, List.nil_append]
theorem midL_skip (l : List UInt8) (k : Nat) (h : k < l.length) (hc : capC (l[k].toNat : Int) = false) : midL l k = midL l (k + 1) := by
  rw [← midL_set l k h]
  have h2 := midL_get l k h
  apply List.ext_getElem?
  intro j
  rw [List.getElem?_set]
  by_cases hj : k = j
  · subst hj
    rw [if_pos rfl, if_pos (by rw [midL_len]; exact h), h2]
    simp [lowB, hc]
  · rw [if_neg hj]
def rowOf (l : List UInt8) (z : List Value) : Array Value := (l.map (fun b => Value.int .u8 b.toNat) ++ z).toArray
theorem rowOf_get (l : List UInt8) (z : List Value) (k : Nat) (b : UInt8) (h : l[k]? = some b) : (rowOf l z)[k]? = some (.int .u8 b.toNat) := by
  have hk := (List.getElem?_eq_some_iff.1 h).1
  simp only [rowOf, List.getElem?_toArray]
  rw [List.getElem?_append_left (by simpa using hk), List.getElem?_map, h]; rfl
theorem rowOf_set (l : List UInt8) (z : List Value) (k : Nat) (b : UInt8) (h : k < l.length) : (rowOf l z).setIfInBounds k (.int .u8 b.toNat) = rowOf (l.set k b) z := by
  apply Array.ext'
  simp only [rowOf, Array.toList_setIfInBounds, List.map_set]
  rw [List.set_append_left _ _ (by simpa using h)]
theorem cap_step (c : UInt8) (h : capC (c.toNat : Int) = true) : IntKind.u8.wrap (IntKind.u8.wrap ((c.toNat : Int) - 65) + 97) = ((c + 32 : UInt8).toNat : Int) := by
  simp only [capC, Bool.and_eq_true, decide_eq_true_eq] at h
  have h1 : IntKind.u8.wrap ((c.toNat : Int) - 65) = (c.toNat : Int) - 65 := by simp [IntKind.wrap_u8]; omega
  rw [h1]
  have h2 : IntKind.u8.wrap ((c.toNat : Int) - 65 + 97) = (c.toNat : Int) + 32 := by simp [IntKind.wrap_u8]; omega
  rw [h2]
  have : (c + 32 : UInt8).toNat = c.toNat + 32 := by
    rw [UInt8.toNat_add]; simp; omega
  rw [this]; rfl
set_option maxHeartbeats 4000000 in
theorem f63_calls (s : ByteArray) (w : World) (ht : Tabs Try.prog w fun _ => none) (hs : s.size ≤ 100000) : Calls Try.prog 63 #[.string s] w fun e w' => e = .returned (.string (lowS s)) ∧ Below w.heap.size w w' := by
  obtain ⟨l, rfl⟩ : ∃ l : List UInt8, s = ⟨l.toArray⟩ := ⟨s.data.toList, by obtain ⟨⟨l⟩⟩ := s; rfl⟩
  have hsz : (ByteArray.mk l.toArray).size = l.length := by simp [ByteArray.size]
  have hconv := run_bytes_of_string (P := Try.prog) w 9 70 5 ⟨l.toArray⟩ Try.underlying9 Try.underlying70 Try.underlying5
  rw [hsz] at hconv hs
  obtain ⟨cap, hcap⟩ : ∃ cap, grownCap w l.length 0 5 = cap := ⟨_, rfl⟩
  rw [hcap] at hconv
  obtain ⟨z, hz⟩ : ∃ z : List Value, bytesRow ⟨l.toArray⟩ cap = rowOf l z := ⟨List.replicate (cap - l.length) (.int .u8 0), by
    apply Array.ext'; simp [bytesRow, rowOf, ByteArray.size]⟩
  rw [hz] at hconv
  obtain ⟨n, hn⟩ : ∃ n, (rowOf l z).size = n := ⟨_, rfl⟩
  rw [hn] at hconv
  clear hcap hz
  go_enter Try.func63, Try.ntmps63
  go_wp2
  go_loopw [10] (fun i wr => ∃ k : Nat, k ≤ l.length ∧ i = .int .i64 k ∧ wr.heap[w.heap.size]? = some (.cells (rowOf (midL l k) z) 5 (n, n + 1)) ∧ Below w.heap.size w wr) (fun i _ => l.length - (intOf i).toNat)
  case atStart => exact ⟨0, Nat.zero_le _, rfl, (heap_alloc_new w (Obj.cells (rowOf l z) 5 (n, n + 1))), ((Below.refl _ w).alloc (Nat.le_refl _) _).drew⟩
  case round =>
    obtain ⟨k, hk, rfl, hh, hb⟩ := hrel
    by_cases hlt : k < l.length
    · have hcell : wr.cell? ⟨w.heap.size, k, none⟩ = some (.int .u8 (l[k].toNat : Int)) := by
        simp only [World.cell?, hh]
        exact rowOf_get _ z k _ (midL_get l k hlt)
      have hn2 : k < n := by rw [← hn]; simp [rowOf]; omega
      have hfz : wr.frozen? ⟨w.heap.size, k, none⟩ = false := by
        simp [World.frozen?, hh]; omega
      have hbs : w.heap.size < wr.heap.size := (Array.getElem?_eq_some_iff.1 hh).1
      have hb1 : 0 ≤ (l[k].toNat : Int) := Int.natCast_nonneg _
      have hb2 : (l[k].toNat : Int) ≤ 255 := by have := UInt8.toNat_lt l[k]; omega
      cases hc : capC (l[k].toNat : Int) with
      | false =>
        go_wp2_with (go_at_call 73; refine ((f73_ok (l[k].toNat : Int)).below (vs := [.int .i32 (l[k].toNat : Int)]) _ (ht.below hb)).mono ?_; rw [hc]; rintro e w1 ⟨rfl, hb3⟩)
        go_roundw
        case rel => exact ⟨k + 1, by omega, by go_num, by rw [hb3.block _ hbs, hh, midL_skip l k hlt hc], hb.trans (hb3.mono hb.size)⟩
        case measure => simp [intOf]; omega
      | true =>
        have hst : IntKind.u8.wrap (IntKind.u8.wrap ((l[k].toNat : Int) - 65) + 97) = ((lowB l[k]).toNat : Int) := by
          rw [cap_step _ hc]; unfold lowB; rw [hc]; rfl
        simp only [IntKind.wrap_u8] at hst
        have H := hid hst
        clear hst
        go_wp2_with (go_at_call 73; refine ((f73_ok (l[k].toNat : Int)).below (vs := [.int .i32 (l[k].toNat : Int)]) _ (ht.below hb)).mono ?_; rw [hc]; rintro e w1 ⟨rfl, hb3⟩; have hc1 := (hb3.cell (p := ⟨w.heap.size, k, none⟩) hbs).trans hcell; have hf1 := (hb3.frozen (p := ⟨w.heap.size, k, none⟩) hbs).trans hfz)
        go_roundw
        case rel =>
          refine ⟨k + 1, by omega, by go_num, ?_, hb.trans ((hb3.mono hb.size).setCell (Nat.le_refl _) _)⟩
          have hm : ((l[k].toNat : Int) - 65 + 97) % 256 = ((lowB l[k]).toNat : Int) := by
            rw [← H.out]; omega
          rw [hm]
          have hq : w1.heap[w.heap.size]? = some (.cells (rowOf (midL l k) z) 5 (n, n + 1)) := (hb3.block _ hbs).trans hh
          have hs2 : w.heap.size < w1.heap.size := (Array.getElem?_eq_some_iff.1 hq).1
          unfold World.setCell
          simp only [Array.getElem?_modify, hq, if_true, Option.map_some]
          have hrs := rowOf_set (midL l k) z k (lowB l[k]) (by rw [midL_len]; exact hlt)
          rw [midL_set l k hlt] at hrs
          simp only [hrs]; rfl
        case measure => simp [intOf]; omega
    · have : k = l.length := by omega
      subst this
      have hrw : rowOf (midL l l.length) z = rowOf (lowL l) z := by simp [midL, lowL]
      rw [hrw] at hh
      have hcv := run_convert_bytes_back (P := Try.prog) wr 70 9 5 ⟨w.heap.size, 0, none⟩ cap (lowL l) Try.underlying70 Try.underlying5 Try.underlying9 (fun j hj => by
        have := rowOf_get (lowL l) z j ((lowL l)[j]) (List.getElem?_eq_getElem hj)
        have ha : (⟨w.heap.size, 0, none⟩ : Addr).add j = ⟨w.heap.size, j, none⟩ := by
          unfold Addr.add; split <;> simp_all
        rw [ha]; simp only [World.cell?, hh, this]; rfl)
      rw [show (lowL l).length = l.length from by simp [lowL]] at hcv
      go_wp2
      go_ret
      exact ⟨rfl, hb⟩
theorem f63_ok (s : ByteArray) (hs : s.size ≤ 100000) : FnOK Try.prog 63 [] [eStr s] [] (eStr (lowS s)) :=
  FnOK.of_calls (vs := [.string s]) (v := .string (lowS s)) fun w ht => f63_calls s w ht hs
end Go.Proofs.Able
end
section
set_option linter.unusedSimpArgs false
set_option linter.unusedVariables false
namespace Go.Proofs.Able
open Go.Am Go.RowKit Go.Lib
set_option maxRecDepth 100000
def signB (b : UInt8) : Bool := signC (b.toNat : Int)
def firstB : List UInt8 → Bool
  | [] => false
  | b :: _ => smallC (b.toNat : Int) || capC (b.toNat : Int) || decide ((b.toNat : Int) = 95)
def rightL (l : List UInt8) : Bool := decide (1 ≤ l.length) && decide (l.length ≤ 40) && l.all signB && firstB l
def rightS (s : ByteArray) : Bool := rightL s.data.toList
theorem idx_bad (s : ByteArray) : ∀ (f pos : Nat), s.size ≤ pos + f → (0 ≤ idxFuncFrom (fun r => !signC (r : Int)) true s f pos ↔ ∃ i, pos ≤ i ∧ ∃ b, s.data.toList[i]? = some b ∧ signB b = false)
  | 0, pos, h => by
    have : ¬ (0 : Int) ≤ idxFuncFrom (fun r => !signC (r : Int)) true s 0 pos := by simp [idxFuncFrom]
    refine ⟨fun h' => absurd h' this, ?_⟩
    rintro ⟨i, h1, b, h2, _⟩
    have := (List.getElem?_eq_some_iff.1 h2).1
    have : i < s.size := this
    omega
  | f + 1, pos, h => by
    by_cases hp : pos < s.size
    · have ih := idx_bad s f
      have hb : ∃ b, s.data.toList[pos]? = some b ∧ s.get! pos = b := ⟨_, List.getElem?_eq_getElem hp, by show s.data[pos]! = _; rw [getElem!_pos s.data pos hp]; rfl⟩
      obtain ⟨b, hb1, hb2⟩ := hb
      unfold idxFuncFrom
      rw [if_pos hp, decode_at, hb2]
      have hbn : b.toNat < 256 := UInt8.toNat_lt b
      have big : ∀ r : Nat, 128 ≤ r → signC (r : Int) = false := by
        intro r hr
        have : (128 : Int) ≤ r := by omega
        simp only [signC, smallC, capC, Bool.or_eq_false_iff, Bool.and_eq_false_iff, decide_eq_false_iff_not]
        omega
      have bad : ∀ r w : Nat, 128 ≤ r → 128 ≤ b.toNat → ((0 : Int) ≤ (if (!signC (r : Int)) = true then (pos : Int) else idxFuncFrom (fun r => !signC (r : Int)) true s f (pos + w)) ↔ ∃ i, pos ≤ i ∧ ∃ b, s.data.toList[i]? = some b ∧ signB b = false) := by
        intro r w hr hbr
        rw [big r hr]
        exact ⟨fun _ => ⟨pos, Nat.le_refl _, b, hb1, big _ hbr⟩, fun _ => by simp⟩
      rcases decodeN_shape (s.size - pos) b.toNat (s.get! (pos + 1)).toNat (s.get! (pos + 2)).toNat (s.get! (pos + 3)).toNat with ⟨h1, h2⟩ | ⟨h1, h3, h4, h5, h2⟩ | ⟨h1, h3, h4, h5, h6, h7, h2⟩ | ⟨h1, h3, h4, h5, h6, h7, h8, h2⟩ | h2
      · rw [h2]
        show (0 : Int) ≤ (if (!signC (b.toNat : Int)) = true then (pos : Int) else idxFuncFrom _ true s f (pos + 1)) ↔ _
        cases hs : signC (b.toNat : Int) with
        | false => exact ⟨fun _ => ⟨pos, Nat.le_refl _, b, hb1, hs⟩, fun _ => by simp⟩
        | true =>
          rw [if_neg (by simp), ih (pos + 1) (by omega)]
          constructor
          · rintro ⟨i, h3, h4⟩; exact ⟨i, by omega, h4⟩
          · rintro ⟨i, h3, b', h4, h5⟩
            rcases Nat.lt_or_ge pos i with h6 | h6
            · exact ⟨i, h6, b', h4, h5⟩
            · have : i = pos := by omega
              subst this
              rw [hb1] at h4; cases h4
              rw [signB, hs] at h5; cases h5
      · rw [h2]; exact bad _ _ (by omega) (by omega)
      · rw [h2]; exact bad _ _ (by omega) (by omega)
      · rw [h2]; exact bad _ _ (by omega) (by omega)
      · rw [h2]
        refine bad _ _ (by omega) ?_
        rcases Nat.lt_or_ge b.toNat 128 with h3 | h3
        · rw [decodeN, if_pos h3] at h2; simp only [Prod.mk.injEq] at h2; omega
        · exact h3
    · rw [idxFuncFrom_end _ _ _ _ _ hp]
      refine ⟨fun h' => by omega, ?_⟩
      rintro ⟨i, h1, b, h2, _⟩
      have := (List.getElem?_eq_some_iff.1 h2).1
      have : i < s.size := this
      omega
theorem idx_all (s : ByteArray) : decide (0 ≤ idxFunc (fun r => !signC (r : Int)) true s) = !s.data.toList.all signB := by
  have h := idx_bad s s.size 0 (by omega)
  cases ha : s.data.toList.all signB with
  | true =>
    simp only [Bool.not_true, decide_eq_false_iff_not]
    intro h'
    obtain ⟨i, _, b, h1, h2⟩ := h.1 h'
    have := List.all_eq_true.1 ha b (List.mem_of_getElem? h1)
    rw [this] at h2; cases h2
  | false =>
    simp only [Bool.not_false, decide_eq_true_eq]
    refine h.2 ?_
    obtain ⟨b, h1, h2⟩ := List.all_eq_false.1 ha
    obtain ⟨i, h3⟩ := List.getElem?_of_mem h1
    exact ⟨i, Nat.zero_le _, b, h3, by simpa using h2⟩
theorem f85_calls (g : Nat) (eg : ∀ args w, (callFunc g args).run Try.prog w = .ok (.enter g args) w) (p : Nat → Bool) (s : ByteArray) (w : World) (ht : Tabs Try.prog w fun _ => none) (hp : ∀ (W : World) (x : Nat), (Tabs Try.prog W fun _ => none) → x ≤ 1114111 → Calls Try.prog g #[.int .i32 (x : Int)] W fun e w' => e = .returned (.bool (p x)) ∧ Below W.heap.size W w') :
    Calls Try.prog 85 #[.string s, .func (.func g) #[] #[]] w fun e w' => e = .returned (.int .i64 (Lib.idxFunc p true s)) ∧ Below w.heap.size w w' := by
  have h44 := f91_calls g eg p s w ht hp
  clear hp
  go_enter Try.func85, Try.ntmps85
  go_wp2_with (go_at_call 91; refine h44.mono ?_; rintro e w1 ⟨rfl, hb⟩)
  go_ret
  exact ⟨rfl, hb⟩
theorem f72_calls (g : Nat) (eg : ∀ args w, (callFunc g args).run Try.prog w = .ok (.enter g args) w) (p : Nat → Bool) (s : ByteArray) (w : World) (ht : Tabs Try.prog w fun _ => none) (hp : ∀ (W : World) (x : Nat), (Tabs Try.prog W fun _ => none) → x ≤ 1114111 → Calls Try.prog g #[.int .i32 (x : Int)] W fun e w' => e = .returned (.bool (p x)) ∧ Below W.heap.size W w') :
    Calls Try.prog 72 #[.string s, .func (.func g) #[] #[]] w fun e w' => e = .returned (.bool (decide (0 ≤ Lib.idxFunc p true s))) ∧ Below w.heap.size w w' := by
  have h43 := f85_calls g eg p s w ht hp
  clear hp
  go_enter Try.func72, Try.ntmps72
  go_wp2_with (go_at_call 85; refine h43.mono ?_; rintro e w1 ⟨rfl, hb⟩)
  go_ret
  exact ⟨rfl, hb⟩
theorem f72_ok (s : ByteArray) : FnOK Try.prog 72 [] [eStr s, .lit (.func (.func 78) #[] #[])] [] (eBool (!s.data.toList.all signB)) := by
  rw [← idx_all]
  exact FnOK.of_calls (vs := [.string s, .func (.func 78) #[] #[]]) fun w ht => f72_calls 78 c78 (fun r => !signC (r : Int)) s w ht fun W x ht _ => (f78_ok (x : Int)).below (vs := [.int .i32 (x : Int)]) W ht
theorem size_len (s : ByteArray) : s.size = s.data.toList.length := (Array.length_toList (xs := s.data)).symm
theorem first_get {l : List UInt8} (h : 1 ≤ l.length) : ∃ b r, l = b :: r ∧ l[0]? = some b := by
  cases l with
  | nil => simp at h
  | cons b r => exact ⟨b, r, rfl, rfl⟩
theorem u8_i32 (b : UInt8) : IntKind.i32.wrap (b.toNat : Int) = (b.toNat : Int) := by
  have h : b.toNat < 256 := UInt8.toNat_lt b
  rw [IntKind.wrap_i32]; omega
theorem f62_ok (s : ByteArray) : FnOK Try.prog 62 [] [eStr s] [] (eBool (rightS s)) := by
  have hsz : s.size = s.data.toList.length := size_len s
  have hb0 : 1 ≤ s.data.toList.length → ∃ b r, s.data.toList = b :: r ∧ s.data.toList[0]? = some b := first_get
  refine FnOK.startC (rvs := [.tmp 2]) G G_good Try.func62 rfl Try.ntmps62 rfl rfl ?_; delta List.toArray; ((with_reducible conv => whnf); (with_reducible conv => congr <;> reduce); repeat ((first | (with_reducible refine HaltK.mk ?_) | (with_reducible refine StopK.mk ?_)); (with_reducible conv => whnf); (with_reducible conv => congr <;> reduce)))
  repeat' (first
    | ((with_reducible show IfK _ _ _ _); first
      | (refine IfK.yes (by assumption) ?_; ((with_reducible conv => whnf); (with_reducible conv => congr <;> reduce); repeat ((first | (with_reducible refine HaltK.mk ?_) | (with_reducible refine StopK.mk ?_)); (with_reducible conv => whnf); (with_reducible conv => congr <;> reduce))))
      | (refine IfK.no (by assumption) ?_; ((with_reducible conv => whnf); (with_reducible conv => congr <;> reduce); repeat ((first | (with_reducible refine HaltK.mk ?_) | (with_reducible refine StopK.mk ?_)); (with_reducible conv => whnf); (with_reducible conv => congr <;> reduce))))
      | (with_reducible refine IfK.yes Bool.not_false ?_; ((with_reducible conv => whnf); (with_reducible conv => congr <;> reduce); repeat ((first | (with_reducible refine HaltK.mk ?_) | (with_reducible refine StopK.mk ?_)); (with_reducible conv => whnf); (with_reducible conv => congr <;> reduce))))
      | (with_reducible refine IfK.no Bool.not_true ?_; ((with_reducible conv => whnf); (with_reducible conv => congr <;> reduce); repeat ((first | (with_reducible refine HaltK.mk ?_) | (with_reducible refine StopK.mk ?_)); (with_reducible conv => whnf); (with_reducible conv => congr <;> reduce))))
      | (with_reducible refine IfK.yes (nf (by assumption)) ?_; ((with_reducible conv => whnf); (with_reducible conv => congr <;> reduce); repeat ((first | (with_reducible refine HaltK.mk ?_) | (with_reducible refine StopK.mk ?_)); (with_reducible conv => whnf); (with_reducible conv => congr <;> reduce))))
      | (with_reducible refine IfK.no (nt (by assumption)) ?_; ((with_reducible conv => whnf); (with_reducible conv => congr <;> reduce); repeat ((first | (with_reducible refine HaltK.mk ?_) | (with_reducible refine StopK.mk ?_)); (with_reducible conv => whnf); (with_reducible conv => congr <;> reduce))))
      | (with_reducible refine IfK.tt ?_; ((with_reducible conv => whnf); (with_reducible conv => congr <;> reduce); repeat ((first | (with_reducible refine HaltK.mk ?_) | (with_reducible refine StopK.mk ?_)); (with_reducible conv => whnf); (with_reducible conv => congr <;> reduce))))
      | (with_reducible refine IfK.ff ?_; ((with_reducible conv => whnf); (with_reducible conv => congr <;> reduce); repeat ((first | (with_reducible refine HaltK.mk ?_) | (with_reducible refine StopK.mk ?_)); (with_reducible conv => whnf); (with_reducible conv => congr <;> reduce))))
      | (refine IfK.mk (fun _ => ?_) (fun _ => ?_) <;> ((with_reducible conv => whnf); (with_reducible conv => congr <;> reduce); repeat ((first | (with_reducible refine HaltK.mk ?_) | (with_reducible refine StopK.mk ?_)); (with_reducible conv => whnf); (with_reducible conv => congr <;> reduce)))))
    | ((with_reducible show CallK _ _ 72 _ _ _ _); refine CallK.lit [] (f72_ok _) c72 ⟨rfl, MF_refl 12 _ rfl, trivial⟩ rfl rfl ?_; ((with_reducible conv => whnf); (with_reducible conv => congr <;> reduce); repeat ((first | (with_reducible refine HaltK.mk ?_) | (with_reducible refine StopK.mk ?_)); (with_reducible conv => whnf); (with_reducible conv => congr <;> reduce))))
    | ((with_reducible show CallK _ _ 73 _ _ _ _); refine CallK.lit [] (f73_ok _) c73 ⟨rfl, trivial⟩ rfl rfl ?_; ((with_reducible conv => whnf); (with_reducible conv => congr <;> reduce); repeat ((first | (with_reducible refine HaltK.mk ?_) | (with_reducible refine StopK.mk ?_)); (with_reducible conv => whnf); (with_reducible conv => congr <;> reduce))))
    | ((with_reducible show CallK _ _ 71 _ _ _ _); refine CallK.lit [] (f71_ok _) c71 ⟨rfl, trivial⟩ rfl rfl ?_; ((with_reducible conv => whnf); (with_reducible conv => congr <;> reduce); repeat ((first | (with_reducible refine HaltK.mk ?_) | (with_reducible refine StopK.mk ?_)); (with_reducible conv => whnf); (with_reducible conv => congr <;> reduce))))
    | ((with_reducible show IdxSK _ _ _ _ _); obtain ⟨b, r, hl, hb⟩ := hb0 (by simp only [decide_eq_false_iff_not] at *; omega); refine IdxSK.mk 0 b rfl hb ?_; ((with_reducible conv => whnf); (with_reducible conv => congr <;> reduce); repeat ((first | (with_reducible refine HaltK.mk ?_) | (with_reducible refine StopK.mk ?_)); (with_reducible conv => whnf); (with_reducible conv => congr <;> reduce))))
    | ((with_reducible show ConvK _ _ _ _ _ _ _); refine ConvK.int (by kernel_rfl) (by kernel_rfl) (u8_i32 _) ?_; ((with_reducible conv => whnf); (with_reducible conv => congr <;> reduce); repeat ((first | (with_reducible refine HaltK.mk ?_) | (with_reducible refine StopK.mk ?_)); (with_reducible conv => whnf); (with_reducible conv => congr <;> reduce))))
    | ((with_reducible show (_ ∧ _) ∧ _ ∧ _); refine ⟨⟨rfl, rfl⟩, ?_, ?_⟩ <;> (with_reducible conv => whnf) <;> repeat' (first | (with_reducible exact trivial) | (with_reducible refine And.intro ?_ ?_ <;> with_reducible conv => whnf))))
  all_goals (simp only [decide_eq_true_eq, decide_eq_false_iff_not, hsz] at *; unfold rightS rightL)
  · rw [show decide (1 ≤ s.data.toList.length) = false from decide_eq_false (by omega)]; rfl
  · rw [show decide (s.data.toList.length ≤ 40) = false from decide_eq_false (by omega)]; simp
  · rw [show s.data.toList.all signB = false from by simp_all]; simp
  all_goals rw [show decide (1 ≤ s.data.toList.length) = true from decide_eq_true (by omega), show decide (s.data.toList.length ≤ 40) = true from decide_eq_true (by omega), show s.data.toList.all signB = true from by simp_all, hl]; simp_all [firstB]
theorem right_size {s : ByteArray} (h : rightS s = true) : s.size ≤ 40 := by
  unfold rightS rightL at h
  simp only [Bool.and_eq_true, decide_eq_true_eq] at h
  rw [size_len]; exact h.1.1.2
theorem right_small {s : ByteArray} (h : (!rightS s) = false) : s.size ≤ 100000 := by
  have := right_size (s := s) (by simpa using h)
  omega
theorem f45_ok (s : ByteArray) : FnOK Try.prog 45 [] [eStr s] [] (.tup [eStr (if rightS s then lowS s else ⟨#[]⟩), eInt (if rightS s then 0 else 4)]) := by
  refine FnOK.startC (rvs := [.tmp 2, .tmp 3]) G G_good Try.func45 rfl Try.ntmps45 rfl rfl ?_; delta List.toArray; ((with_reducible conv => whnf); (with_reducible conv => congr <;> reduce); repeat ((first | (with_reducible refine HaltK.mk ?_) | (with_reducible refine StopK.mk ?_)); (with_reducible conv => whnf); (with_reducible conv => congr <;> reduce)))
  repeat' (first
    | ((with_reducible show IfK _ _ _ _); first
      | (refine IfK.yes (by assumption) ?_; ((with_reducible conv => whnf); (with_reducible conv => congr <;> reduce); repeat ((first | (with_reducible refine HaltK.mk ?_) | (with_reducible refine StopK.mk ?_)); (with_reducible conv => whnf); (with_reducible conv => congr <;> reduce))))
      | (refine IfK.no (by assumption) ?_; ((with_reducible conv => whnf); (with_reducible conv => congr <;> reduce); repeat ((first | (with_reducible refine HaltK.mk ?_) | (with_reducible refine StopK.mk ?_)); (with_reducible conv => whnf); (with_reducible conv => congr <;> reduce))))
      | (with_reducible refine IfK.yes Bool.not_false ?_; ((with_reducible conv => whnf); (with_reducible conv => congr <;> reduce); repeat ((first | (with_reducible refine HaltK.mk ?_) | (with_reducible refine StopK.mk ?_)); (with_reducible conv => whnf); (with_reducible conv => congr <;> reduce))))
      | (with_reducible refine IfK.no Bool.not_true ?_; ((with_reducible conv => whnf); (with_reducible conv => congr <;> reduce); repeat ((first | (with_reducible refine HaltK.mk ?_) | (with_reducible refine StopK.mk ?_)); (with_reducible conv => whnf); (with_reducible conv => congr <;> reduce))))
      | (with_reducible refine IfK.yes (nf (by assumption)) ?_; ((with_reducible conv => whnf); (with_reducible conv => congr <;> reduce); repeat ((first | (with_reducible refine HaltK.mk ?_) | (with_reducible refine StopK.mk ?_)); (with_reducible conv => whnf); (with_reducible conv => congr <;> reduce))))
      | (with_reducible refine IfK.no (nt (by assumption)) ?_; ((with_reducible conv => whnf); (with_reducible conv => congr <;> reduce); repeat ((first | (with_reducible refine HaltK.mk ?_) | (with_reducible refine StopK.mk ?_)); (with_reducible conv => whnf); (with_reducible conv => congr <;> reduce))))
      | (with_reducible refine IfK.tt ?_; ((with_reducible conv => whnf); (with_reducible conv => congr <;> reduce); repeat ((first | (with_reducible refine HaltK.mk ?_) | (with_reducible refine StopK.mk ?_)); (with_reducible conv => whnf); (with_reducible conv => congr <;> reduce))))
      | (with_reducible refine IfK.ff ?_; ((with_reducible conv => whnf); (with_reducible conv => congr <;> reduce); repeat ((first | (with_reducible refine HaltK.mk ?_) | (with_reducible refine StopK.mk ?_)); (with_reducible conv => whnf); (with_reducible conv => congr <;> reduce))))
      | (refine IfK.mk (fun _ => ?_) (fun _ => ?_) <;> ((with_reducible conv => whnf); (with_reducible conv => congr <;> reduce); repeat ((first | (with_reducible refine HaltK.mk ?_) | (with_reducible refine StopK.mk ?_)); (with_reducible conv => whnf); (with_reducible conv => congr <;> reduce)))))
    | ((with_reducible show CallK _ _ 62 _ _ _ _); refine CallK.lit [] (f62_ok _) c62 ⟨rfl, trivial⟩ rfl rfl ?_; ((with_reducible conv => whnf); (with_reducible conv => congr <;> reduce); repeat ((first | (with_reducible refine HaltK.mk ?_) | (with_reducible refine StopK.mk ?_)); (with_reducible conv => whnf); (with_reducible conv => congr <;> reduce))))
    | ((with_reducible show CallK _ _ 63 _ _ _ _); refine CallK.lit [] (f63_ok _ (right_small (by assumption))) c63 ⟨rfl, trivial⟩ rfl rfl ?_; ((with_reducible conv => whnf); (with_reducible conv => congr <;> reduce); repeat ((first | (with_reducible refine HaltK.mk ?_) | (with_reducible refine StopK.mk ?_)); (with_reducible conv => whnf); (with_reducible conv => congr <;> reduce))))
    | ((with_reducible show (_ ∧ _) ∧ _ ∧ _); refine ⟨⟨rfl, rfl⟩, ?_, ?_⟩ <;> (with_reducible conv => whnf) <;> repeat' (first | (with_reducible exact trivial) | (with_reducible refine And.intro ?_ ?_ <;> with_reducible conv => whnf))))
  all_goals simp_all
def okAt (i : Nat) (b : UInt8) : Bool := (smallC (b.toNat : Int) || capC (b.toNat : Int)) || decide ((b.toNat : Int) = 95) || (decide (0 < i) && signB b)
theorem rightL_at {l : List UInt8} (h1 : 1 ≤ l.length) (h2 : l.length ≤ 40) : rightL l = true ↔ ∀ i b, l[i]? = some b → okAt i b = true := by
  unfold rightL
  rw [decide_eq_true h1, decide_eq_true h2]
  simp only [Bool.true_and, Bool.and_eq_true, List.all_eq_true]
  constructor
  · rintro ⟨ha, hf⟩ i b hb
    cases l with
    | nil => simp at h1
    | cons c r =>
      cases i with
      | zero =>
        simp at hb; subst hb
        simp only [firstB] at hf
        simp [okAt, hf]
      | succ i =>
        have := ha b (List.mem_of_getElem? hb)
        simp [okAt, this]
  · intro h
    refine ⟨fun b hb => ?_, ?_⟩
    · obtain ⟨i, hi⟩ := List.getElem?_of_mem hb
      have := h i b hi
      simp only [okAt, signB, signC, smallC, capC, Bool.or_eq_true, Bool.and_eq_true, decide_eq_true_eq] at this ⊢
      omega
    · cases l with
      | nil => simp at h1
      | cons c r =>
        have := h 0 c rfl
        simpa [okAt, firstB] using this
end Go.Proofs.Able
end
section
set_option linter.unusedSimpArgs false
set_option linter.unusedVariables false
namespace Go.Proofs.Able
open Go.Am Go.RowKit Go.Lib
set_option maxRecDepth 100000
def strOf (l : List UInt8) : ByteArray := ⟨l.toArray⟩
theorem strOf_size (l : List UInt8) : (strOf l).size = l.length := by simp [strOf, ByteArray.size]
theorem strOf_app (a b : List UInt8) : strOf a ++ strOf b = strOf (a ++ b) := by
  apply ByteArray.ext
  simp [strOf]
theorem lowS_strOf (s : ByteArray) : lowS s = strOf (lowL s.data.toList) := rfl
theorem lowL_len (l : List UInt8) : (lowL l).length = l.length := by simp [lowL]
theorem cut_one {s : ByteArray} {k : Nat} {b : UInt8} (h : s.data.toList[k]? = some b) : s.extract k (k + 1) = strOf [b] := by
  obtain ⟨l, rfl⟩ : ∃ l : List UInt8, s = ⟨l.toArray⟩ := ⟨s.data.toList, by obtain ⟨⟨l⟩⟩ := s; rfl⟩
  rw [ByteArray.extract_mk]
  simp only at h
  have hk := (List.getElem?_eq_some_iff.1 h).1
  have : (l.drop k).take (k + 1 - k) = [b] := by
    rw [List.drop_eq_getElem_cons hk, show k + 1 - k = 1 from by omega]
    simp [(List.getElem?_eq_some_iff.1 h).2]
  rw [this]; rfl
theorem low_take {l : List UInt8} {k : Nat} {b : UInt8} (h : l[k]? = some b) : lowL (l.take (k + 1)) = lowL (l.take k) ++ [lowB b] := by
  have hk := (List.getElem?_eq_some_iff.1 h).1
  rw [List.take_succ_eq_append_getElem hk, lowL, List.map_append, (List.getElem?_eq_some_iff.1 h).2]; rfl
theorem cap_add {b : UInt8} (h : capC (b.toNat : Int) = true) : IntKind.u8.wrap ((b.toNat : Int) + 32) = ((b + 32 : UInt8).toNat : Int) := by
  rw [← cap_step b h]
  simp only [capC, Bool.and_eq_true, decide_eq_true_eq] at h
  rw [IntKind.wrap_u8, IntKind.wrap_u8, IntKind.wrap_u8]
  omega
theorem cap_of {c : Int} (h1 : decide (65 ≤ c) = true) (h2 : decide (c ≤ 90) = true) : capC c = true := by unfold capC; rw [h1, h2]; rfl
theorem bytes_cap {b : UInt8} (h1 : decide (65 ≤ (b.toNat : Int)) = true) (h2 : decide ((b.toNat : Int) ≤ 90) = true) : ∀ (i : Nat) (c : UInt8), [b + 32][i]? = some c → (flat [AV.lit (Value.int IntKind.u8 (IntKind.u8.wrap ((b.toNat : Int) + 32)))])[0 + i]? = some (.lit (.int .u8 c.toNat)) := by
  intro i c hc
  rw [cap_add (cap_of h1 h2)]
  cases i with
  | zero => cases hc; rfl
  | succ i => simp at hc
theorem f31_ok (s : ByteArray) (hs : s.size ≤ 100000) : FnOK Try.prog 31 [] [eStr s] [] (eStr (lowS s)) := by
  have hsz : s.size = s.data.toList.length := size_len s
  rw [lowS_strOf]
  obtain ⟨l, hl⟩ : ∃ l, s.data.toList = l := ⟨_, rfl⟩
  rw [hl] at hsz ⊢
  refine FnOK.startC (rvs := [.tmp 2]) G G_good Try.func31 rfl Try.ntmps31 rfl rfl ?_; delta List.toArray; ((with_reducible conv => whnf); (with_reducible conv => congr <;> reduce); repeat ((first | (with_reducible refine HaltK.mk ?_) | (with_reducible refine StopK.mk ?_)); (with_reducible conv => whnf); (with_reducible conv => congr <;> reduce)))
  refine LoopK.use G G_good (fun (k : Nat) => [(0, eStr s), (3, eStr (strOf (lowL (l.take k)))), (4, eInt k)]) (fun _ => []) (fun k => k ≤ l.length) (fun k => l.length - k) 0 (Nat.zero_le _) ⟨⟨rfl, rfl⟩, ⟨rfl, rfl, rfl, trivial⟩, trivial⟩ ?_
  intro k hk
  ((with_reducible conv => whnf); (with_reducible conv => congr <;> reduce); repeat ((first | (with_reducible refine HaltK.mk ?_) | (with_reducible refine StopK.mk ?_)); (with_reducible conv => whnf); (with_reducible conv => congr <;> reduce)))
  refine IfK.mk (fun h1 => ?_) (fun h1 => ?_) <;> (try simp only [castN] at h1) <;> ((with_reducible conv => whnf); (with_reducible conv => congr <;> reduce); repeat ((first | (with_reducible refine HaltK.mk ?_) | (with_reducible refine StopK.mk ?_)); (with_reducible conv => whnf); (with_reducible conv => congr <;> reduce)))
  · simp only [decide_eq_true_eq] at h1
    have hk' : k < l.length := by omega
    obtain ⟨b, hb0⟩ : ∃ b, l[k]? = some b := ⟨_, List.getElem?_eq_getElem hk'⟩
    have hb : s.data.toList[k]? = some b := by rw [hl]; exact hb0
    refine IdxSK.mk k b rfl hb ?_; ((with_reducible conv => whnf); (with_reducible conv => congr <;> reduce); repeat ((first | (with_reducible refine HaltK.mk ?_) | (with_reducible refine StopK.mk ?_)); (with_reducible conv => whnf); (with_reducible conv => congr <;> reduce)))
    have hln : (strOf (lowL (l.take k))).size ≤ 100000 := by rw [strOf_size, lowL_len]; simp; omega
    have hc1 : (s.extract k (k + 1)).size = 1 := by rw [cut_one hb, strOf_size]; rfl
    have n1 : (strOf (lowL (l.take k))).size + (s.extract k (k + 1)).size ≤ 9223372036854775807 := by omega
    have n2 : (strOf (lowL (l.take k))).size + (ByteArray.mk [b + 32].toArray).size ≤ 9223372036854775807 := by rw [show (ByteArray.mk [b + 32].toArray).size = 1 from rfl]; omega
    have no : capC (b.toNat : Int) = false → strOf (lowL (l.take (k + 1))) = strOf (lowL (l.take k)) ++ s.extract k (k + 1) := by
      intro hc
      rw [cut_one hb, strOf_app, low_take hb0, show lowB b = b from by simp [lowB, hc]]
    have yes : capC (b.toNat : Int) = true → strOf (lowL (l.take (k + 1))) = strOf (lowL (l.take k)) ++ ByteArray.mk [b + 32].toArray := by
      intro hc
      rw [show ByteArray.mk [b + 32].toArray = strOf [b + 32] from rfl, strOf_app, low_take hb0, show lowB b = b + 32 from by simp [lowB, hc]]
    have no1 : decide (65 ≤ (b.toNat : Int)) = false → capC (b.toNat : Int) = false := by intro h; unfold capC; rw [h]; rfl
    have no2 : decide ((b.toNat : Int) ≤ 90) = false → capC (b.toNat : Int) = false := by intro h; unfold capC; rw [h]; simp
    repeat' (first
    | ((with_reducible show IfK _ _ _ _); first
      | (refine IfK.yes (by assumption) ?_; ((with_reducible conv => whnf); (with_reducible conv => congr <;> reduce); repeat ((first | (with_reducible refine HaltK.mk ?_) | (with_reducible refine StopK.mk ?_)); (with_reducible conv => whnf); (with_reducible conv => congr <;> reduce))))
      | (refine IfK.no (by assumption) ?_; ((with_reducible conv => whnf); (with_reducible conv => congr <;> reduce); repeat ((first | (with_reducible refine HaltK.mk ?_) | (with_reducible refine StopK.mk ?_)); (with_reducible conv => whnf); (with_reducible conv => congr <;> reduce))))
      | (with_reducible refine IfK.yes Bool.not_false ?_; ((with_reducible conv => whnf); (with_reducible conv => congr <;> reduce); repeat ((first | (with_reducible refine HaltK.mk ?_) | (with_reducible refine StopK.mk ?_)); (with_reducible conv => whnf); (with_reducible conv => congr <;> reduce))))
      | (with_reducible refine IfK.no Bool.not_true ?_; ((with_reducible conv => whnf); (with_reducible conv => congr <;> reduce); repeat ((first | (with_reducible refine HaltK.mk ?_) | (with_reducible refine StopK.mk ?_)); (with_reducible conv => whnf); (with_reducible conv => congr <;> reduce))))
      | (with_reducible refine IfK.yes (nf (by assumption)) ?_; ((with_reducible conv => whnf); (with_reducible conv => congr <;> reduce); repeat ((first | (with_reducible refine HaltK.mk ?_) | (with_reducible refine StopK.mk ?_)); (with_reducible conv => whnf); (with_reducible conv => congr <;> reduce))))
      | (with_reducible refine IfK.no (nt (by assumption)) ?_; ((with_reducible conv => whnf); (with_reducible conv => congr <;> reduce); repeat ((first | (with_reducible refine HaltK.mk ?_) | (with_reducible refine StopK.mk ?_)); (with_reducible conv => whnf); (with_reducible conv => congr <;> reduce))))
      | (with_reducible refine IfK.tt ?_; ((with_reducible conv => whnf); (with_reducible conv => congr <;> reduce); repeat ((first | (with_reducible refine HaltK.mk ?_) | (with_reducible refine StopK.mk ?_)); (with_reducible conv => whnf); (with_reducible conv => congr <;> reduce))))
      | (with_reducible refine IfK.ff ?_; ((with_reducible conv => whnf); (with_reducible conv => congr <;> reduce); repeat ((first | (with_reducible refine HaltK.mk ?_) | (with_reducible refine StopK.mk ?_)); (with_reducible conv => whnf); (with_reducible conv => congr <;> reduce))))
      | (refine IfK.mk (fun _ => ?_) (fun _ => ?_) <;> ((with_reducible conv => whnf); (with_reducible conv => congr <;> reduce); repeat ((first | (with_reducible refine HaltK.mk ?_) | (with_reducible refine StopK.mk ?_)); (with_reducible conv => whnf); (with_reducible conv => congr <;> reduce)))))
    | ((with_reducible show IdxSK _ _ _ _ _); refine IdxSK.mk k b rfl hb ?_; ((with_reducible conv => whnf); (with_reducible conv => congr <;> reduce); repeat ((first | (with_reducible refine HaltK.mk ?_) | (with_reducible refine StopK.mk ?_)); (with_reducible conv => whnf); (with_reducible conv => congr <;> reduce))))
    | ((with_reducible show BytesK _ _ _ _ _ _ _ _ _); refine BytesK.mk (e := 5) [b + 32] (by kernel_rfl) (by kernel_rfl) (by kernel_rfl) rfl (by simp) (bytes_cap (by assumption) (by assumption)) ?_; ((with_reducible conv => whnf); (with_reducible conv => congr <;> reduce); repeat ((first | (with_reducible refine HaltK.mk ?_) | (with_reducible refine StopK.mk ?_)); (with_reducible conv => whnf); (with_reducible conv => congr <;> reduce))))
    | ((with_reducible show CutSK _ _ _ _ _ _); refine CutSK.mk k (k + 1) rfl (by simp only [castN]; omega) (by omega) (by omega) ?_; ((with_reducible conv => whnf); (with_reducible conv => congr <;> reduce); repeat ((first | (with_reducible refine HaltK.mk ?_) | (with_reducible refine StopK.mk ?_)); (with_reducible conv => whnf); (with_reducible conv => congr <;> reduce))))
    | ((with_reducible show NeedK _ _ _ _); refine NeedK.mk n1 ?_; ((with_reducible conv => whnf); (with_reducible conv => congr <;> reduce); repeat ((first | (with_reducible refine HaltK.mk ?_) | (with_reducible refine StopK.mk ?_)); (with_reducible conv => whnf); (with_reducible conv => congr <;> reduce))))
    | ((with_reducible show NeedK _ _ _ _); refine NeedK.mk n2 ?_; ((with_reducible conv => whnf); (with_reducible conv => congr <;> reduce); repeat ((first | (with_reducible refine HaltK.mk ?_) | (with_reducible refine StopK.mk ?_)); (with_reducible conv => whnf); (with_reducible conv => congr <;> reduce))))
    | ((with_reducible show NeedK _ _ _ _); refine NeedK.mk (by (try simp only [castN]); omega) ?_; ((with_reducible conv => whnf); (with_reducible conv => congr <;> reduce); repeat ((first | (with_reducible refine HaltK.mk ?_) | (with_reducible refine StopK.mk ?_)); (with_reducible conv => whnf); (with_reducible conv => congr <;> reduce))))
    | ((with_reducible show NextK _ _); refine NextK.mk (k + 1) (by omega) (by omega) ⟨⟨rfl, rfl⟩, ⟨rfl, ?_, by show ((k + 1 : Nat) : Int) = (k : Int) + 1; omega, trivial⟩, trivial⟩)
    | ((with_reducible show (_ ∧ _) ∧ _ ∧ _); refine ⟨⟨rfl, rfl⟩, ?_, ?_⟩ <;> (with_reducible conv => whnf) <;> repeat' (first | (with_reducible exact trivial) | (with_reducible refine And.intro ?_ ?_ <;> with_reducible conv => whnf))))
    · exact yes (cap_of (by assumption) (by assumption))
    · exact no (no2 (by assumption))
    · exact no (no1 (by assumption))
  · refine ⟨⟨rfl, rfl⟩, ?_, ?_⟩ <;> (with_reducible conv => whnf) <;> repeat' (first | (with_reducible exact trivial) | (with_reducible refine And.intro ?_ ?_ <;> with_reducible conv => whnf))
    have : k = l.length := by simp only [decide_eq_false_iff_not] at h1; omega
    rw [this, List.take_length]
end Go.Proofs.Able
end
section
set_option linter.unusedSimpArgs false
set_option linter.unusedVariables false
namespace Go.Proofs.Able
open Go.Am Go.RowKit Go.Lib
set_option maxRecDepth 100000
structure AttrM where
  name : ByteArray
  value : ByteArray
  deriving DecidableEq
@[reducible] def eAttr (a : AttrM) : AV := .agg [eStr a.name, eStr a.value]
def oAttr (a : AttrM) : AV := eAttr a
@[reducible] def eAttrs (l : List AttrM) : AV := .sl 2 (l.map oAttr)
theorem MFL_refl {tab : List (Nat × Nat)} {fz : Nat → Bool} {m : ML} {n : Nat} : ∀ {cs : List AV}, noRefL cs = true → MFL (MF tab fz m n) cs cs
  | [], _ => trivial
  | c :: cs, h => by
    simp only [noRefL, Bool.and_eq_true] at h
    exact ⟨MF_refl n c h.1, MFL_refl h.2⟩
theorem f65_ok (a : AttrM) (n : ByteArray) : FnOK Try.prog 65 [] [eAttr a, .fptr (eStr n) 0] [] (eBool (decide (a.name = n))) := by
  refine FnOK.startC (rvs := [.tmp 3]) G G_good Try.func65 rfl Try.ntmps65 rfl rfl ?_; delta List.toArray; ((with_reducible conv => whnf); (with_reducible conv => congr <;> reduce); repeat ((first | (with_reducible refine HaltK.mk ?_) | (with_reducible refine StopK.mk ?_)); (with_reducible conv => whnf); (with_reducible conv => congr <;> reduce)))
  refine ⟨⟨rfl, rfl⟩, ?_, ?_⟩ <;> (with_reducible conv => whnf) <;> repeat' (first | (with_reducible exact trivial) | (with_reducible refine And.intro ?_ ?_ <;> with_reducible conv => whnf))
def badA (a : AttrM) : Bool := !(rightS a.name && decide (lowS a.name = a.name) && decide (a.value.size ≤ 200))
theorem f59_ok (a : AttrM) : FnOK Try.prog 59 [] [eAttr a] [] (eBool (badA a)) := by
  obtain ⟨n, v⟩ := a
  refine FnOK.startC (rvs := [.tmp 2]) G G_good Try.func59 rfl Try.ntmps59 rfl rfl ?_; delta List.toArray; ((with_reducible conv => whnf); (with_reducible conv => congr <;> reduce); repeat ((first | (with_reducible refine HaltK.mk ?_) | (with_reducible refine StopK.mk ?_)); (with_reducible conv => whnf); (with_reducible conv => congr <;> reduce)))
  refine CallK.lit [] (f45_ok _) c45 ⟨rfl, trivial⟩ rfl rfl ?_; ((with_reducible conv => whnf); (with_reducible conv => congr <;> reduce); repeat ((first | (with_reducible refine HaltK.mk ?_) | (with_reducible refine StopK.mk ?_)); (with_reducible conv => whnf); (with_reducible conv => congr <;> reduce)))
  repeat' (first
    | ((with_reducible show IfK _ _ _ _); first
      | (refine IfK.yes (by assumption) ?_; ((with_reducible conv => whnf); (with_reducible conv => congr <;> reduce); repeat ((first | (with_reducible refine HaltK.mk ?_) | (with_reducible refine StopK.mk ?_)); (with_reducible conv => whnf); (with_reducible conv => congr <;> reduce))))
      | (refine IfK.no (by assumption) ?_; ((with_reducible conv => whnf); (with_reducible conv => congr <;> reduce); repeat ((first | (with_reducible refine HaltK.mk ?_) | (with_reducible refine StopK.mk ?_)); (with_reducible conv => whnf); (with_reducible conv => congr <;> reduce))))
      | (with_reducible refine IfK.yes Bool.not_false ?_; ((with_reducible conv => whnf); (with_reducible conv => congr <;> reduce); repeat ((first | (with_reducible refine HaltK.mk ?_) | (with_reducible refine StopK.mk ?_)); (with_reducible conv => whnf); (with_reducible conv => congr <;> reduce))))
      | (with_reducible refine IfK.no Bool.not_true ?_; ((with_reducible conv => whnf); (with_reducible conv => congr <;> reduce); repeat ((first | (with_reducible refine HaltK.mk ?_) | (with_reducible refine StopK.mk ?_)); (with_reducible conv => whnf); (with_reducible conv => congr <;> reduce))))
      | (with_reducible refine IfK.yes (nf (by assumption)) ?_; ((with_reducible conv => whnf); (with_reducible conv => congr <;> reduce); repeat ((first | (with_reducible refine HaltK.mk ?_) | (with_reducible refine StopK.mk ?_)); (with_reducible conv => whnf); (with_reducible conv => congr <;> reduce))))
      | (with_reducible refine IfK.no (nt (by assumption)) ?_; ((with_reducible conv => whnf); (with_reducible conv => congr <;> reduce); repeat ((first | (with_reducible refine HaltK.mk ?_) | (with_reducible refine StopK.mk ?_)); (with_reducible conv => whnf); (with_reducible conv => congr <;> reduce))))
      | (with_reducible refine IfK.tt ?_; ((with_reducible conv => whnf); (with_reducible conv => congr <;> reduce); repeat ((first | (with_reducible refine HaltK.mk ?_) | (with_reducible refine StopK.mk ?_)); (with_reducible conv => whnf); (with_reducible conv => congr <;> reduce))))
      | (with_reducible refine IfK.ff ?_; ((with_reducible conv => whnf); (with_reducible conv => congr <;> reduce); repeat ((first | (with_reducible refine HaltK.mk ?_) | (with_reducible refine StopK.mk ?_)); (with_reducible conv => whnf); (with_reducible conv => congr <;> reduce))))
      | (refine IfK.mk (fun _ => ?_) (fun _ => ?_) <;> ((with_reducible conv => whnf); (with_reducible conv => congr <;> reduce); repeat ((first | (with_reducible refine HaltK.mk ?_) | (with_reducible refine StopK.mk ?_)); (with_reducible conv => whnf); (with_reducible conv => congr <;> reduce)))))
    | ((with_reducible show (_ ∧ _) ∧ _ ∧ _); refine ⟨⟨rfl, rfl⟩, ?_, ?_⟩ <;> (with_reducible conv => whnf) <;> repeat' (first | (with_reducible exact trivial) | (with_reducible refine And.intro ?_ ?_ <;> with_reducible conv => whnf))))
  all_goals (unfold badA; cases hr : rightS n <;> simp_all)
  by_cases h2 : v.size ≤ 200
  · rw [decide_eq_true h2, decide_eq_false (by (try simp only [castN]); omega)]; rfl
  · rw [decide_eq_false h2, decide_eq_true (by (try simp only [castN]); omega)]; rfl
def idxI {α : Type} (p : α → Bool) (l : List α) : Int := match l.findIdx? p with | some i => (i : Int) | none => -1
theorem idxI_hit {α : Type} {p : α → Bool} {l : List α} {k : Nat} {a : α} (h : l[k]? = some a) (hp : p a = true) (hno : ∀ (j : Nat) (x : α), j < k → l[j]? = some x → p x = false) : idxI p l = k := by
  have : l.findIdx? p = some k := by
    rw [List.findIdx?_eq_some_iff_getElem]
    obtain ⟨hk, hx⟩ := List.getElem?_eq_some_iff.1 h
    exact ⟨hk, by rw [hx]; exact hp, fun j hj => by simpa using hno j _ hj (List.getElem?_eq_getElem (by omega))⟩
  rw [idxI, this]
theorem idxI_none {α : Type} {p : α → Bool} {l : List α} (hno : ∀ (j : Nat) (x : α), l[j]? = some x → p x = false) : idxI p l = -1 := by
  have : l.findIdx? p = none := by
    rw [List.findIdx?_eq_none_iff]
    intro x hx
    obtain ⟨j, hj⟩ := List.getElem?_of_mem hx
    exact hno j x hj
  rw [idxI, this]
theorem attr_get {l : List AttrM} {k : Nat} {a : AttrM} (h : l[k]? = some a) : (l.map oAttr)[k]? = some (eAttr a) := by rw [List.getElem?_map, h]; rfl
theorem f64_ok (g : Nat) (cg : Callable Try.prog g) (caps : List AV) (hcaps : noRefL caps = true) (p : AttrM → Bool) (l : List AttrM) (hl : l.length ≤ 100000) (hf : ∀ a, a ∈ l → FnOK Try.prog g [] (eAttr a :: caps) [] (eBool (p a))) :
    FnOK Try.prog 64 [] [eAttrs l, .clo (.func g) [] caps] [] (eInt (idxI p l)) := by
  have hlm : (l.map oAttr).length = l.length := List.length_map ..
  refine FnOK.startC (rvs := [.tmp 4]) G G_good Try.func64 rfl Try.ntmps64 rfl rfl ?_; delta List.toArray; ((with_reducible conv => whnf); (with_reducible conv => congr <;> reduce); repeat ((first | (with_reducible refine HaltK.mk ?_) | (with_reducible refine StopK.mk ?_)); (with_reducible conv => whnf); (with_reducible conv => congr <;> reduce)))
  refine LoopK.use G G_good (fun (k : Nat) => [(0, eAttrs l), (1, .clo (.func g) [] caps), (7, eInt l.length), (8, eInt k)]) (fun _ => []) (fun k => k ≤ l.length ∧ ∀ j x, j < k → l[j]? = some x → p x = false) (fun k => l.length - k) 0 ⟨Nat.zero_le _, fun j x h => by omega⟩
    ⟨⟨rfl, rfl⟩, ⟨rfl, ⟨rfl, trivial, MFL_refl hcaps⟩, by show (l.length : Int) = ((l.map oAttr).length : Int); rw [hlm], rfl, trivial⟩, trivial⟩ ?_
  rintro k ⟨hk, hno⟩
  ((with_reducible conv => whnf); (with_reducible conv => congr <;> reduce); repeat ((first | (with_reducible refine HaltK.mk ?_) | (with_reducible refine StopK.mk ?_)); (with_reducible conv => whnf); (with_reducible conv => congr <;> reduce)))
  refine IfK.mk (fun h1 => ?_) (fun h1 => ?_) <;> (try simp only [castN] at h1) <;> ((with_reducible conv => whnf); (with_reducible conv => congr <;> reduce); repeat ((first | (with_reducible refine HaltK.mk ?_) | (with_reducible refine StopK.mk ?_)); (with_reducible conv => whnf); (with_reducible conv => congr <;> reduce)))
  · simp only [decide_eq_true_eq] at h1
    have hk' : k < l.length := by omega
    obtain ⟨a, ha⟩ : ∃ a, l[k]? = some a := ⟨_, List.getElem?_eq_getElem hk'⟩
    refine IdxK.mk k (eAttr a) rfl (attr_get ha) ?_; ((with_reducible conv => whnf); (with_reducible conv => congr <;> reduce); repeat ((first | (with_reducible refine HaltK.mk ?_) | (with_reducible refine StopK.mk ?_)); (with_reducible conv => whnf); (with_reducible conv => congr <;> reduce)))
    refine CallK.lit [] (hf a (List.mem_of_getElem? ha)) cg ⟨⟨rfl, rfl, trivial⟩, MFL_refl hcaps⟩ rfl rfl ?_; ((with_reducible conv => whnf); (with_reducible conv => congr <;> reduce); repeat ((first | (with_reducible refine HaltK.mk ?_) | (with_reducible refine StopK.mk ?_)); (with_reducible conv => whnf); (with_reducible conv => congr <;> reduce)))
    refine IfK.mk (fun h2 => ?_) (fun h2 => ?_) <;> (try simp only [castN] at h2) <;> ((with_reducible conv => whnf); (with_reducible conv => congr <;> reduce); repeat ((first | (with_reducible refine HaltK.mk ?_) | (with_reducible refine StopK.mk ?_)); (with_reducible conv => whnf); (with_reducible conv => congr <;> reduce)))
    · refine ⟨⟨rfl, rfl⟩, ?_, ?_⟩ <;> (with_reducible conv => whnf) <;> repeat' (first | (with_reducible exact trivial) | (with_reducible refine And.intro ?_ ?_ <;> with_reducible conv => whnf))
      exact idxI_hit ha h2 hno
    · refine NeedK.mk (by (try simp only [castN]); omega) ?_; ((with_reducible conv => whnf); (with_reducible conv => congr <;> reduce); repeat ((first | (with_reducible refine HaltK.mk ?_) | (with_reducible refine StopK.mk ?_)); (with_reducible conv => whnf); (with_reducible conv => congr <;> reduce)))
      refine NextK.mk (k + 1) ⟨by omega, fun j x hj hx => ?_⟩ (by omega) ⟨⟨rfl, rfl⟩, ⟨rfl, ⟨rfl, trivial, MFL_refl hcaps⟩, rfl, by show ((k + 1 : Nat) : Int) = (k : Int) + 1; omega, trivial⟩, trivial⟩
      rcases Nat.lt_or_ge j k with h6 | h6
      · exact hno j x h6 hx
      · have : j = k := by omega
        subst this
        rw [ha] at hx; cases hx; exact h2
  · refine ⟨⟨rfl, rfl⟩, ?_, ?_⟩ <;> (with_reducible conv => whnf) <;> repeat' (first | (with_reducible exact trivial) | (with_reducible refine And.intro ?_ ?_ <;> with_reducible conv => whnf))
    have : k = l.length := by simp only [decide_eq_false_iff_not] at h1; omega
    exact idxI_none fun j x hx => hno j x (by have := (List.getElem?_eq_some_iff.1 hx).1; omega) hx
theorem f60_ok (g : Nat) (cg : Callable Try.prog g) (caps : List AV) (hcaps : noRefL caps = true) (p : AttrM → Bool) (l : List AttrM) (hl : l.length ≤ 100000) (hf : ∀ a, a ∈ l → FnOK Try.prog g [] (eAttr a :: caps) [] (eBool (p a))) :
    FnOK Try.prog 60 [] [eAttrs l, .clo (.func g) [] caps] [] (eBool (l.any p)) := by
  refine FnOK.startC (rvs := [.tmp 4]) G G_good Try.func60 rfl Try.ntmps60 rfl rfl ?_; delta List.toArray; ((with_reducible conv => whnf); (with_reducible conv => congr <;> reduce); repeat ((first | (with_reducible refine HaltK.mk ?_) | (with_reducible refine StopK.mk ?_)); (with_reducible conv => whnf); (with_reducible conv => congr <;> reduce)))
  refine CallK.lit [] (f64_ok g cg caps hcaps p l hl hf) c64 ⟨rfl, ⟨rfl, trivial, MFL_refl hcaps⟩, trivial⟩ rfl rfl ?_; ((with_reducible conv => whnf); (with_reducible conv => congr <;> reduce); repeat ((first | (with_reducible refine HaltK.mk ?_) | (with_reducible refine StopK.mk ?_)); (with_reducible conv => whnf); (with_reducible conv => congr <;> reduce)))
  refine ⟨⟨rfl, rfl⟩, ?_, ?_⟩ <;> (with_reducible conv => whnf) <;> repeat' (first | (with_reducible exact trivial) | (with_reducible refine And.intro ?_ ?_ <;> with_reducible conv => whnf))
  unfold idxI
  cases h : l.findIdx? p with
  | none =>
    rw [List.findIdx?_eq_none_iff] at h
    have : l.any p = false := by rw [List.any_eq_false]; intro x hx; rw [h x hx]; simp
    rw [this]; rfl
  | some i =>
    rw [List.findIdx?_eq_some_iff_getElem] at h
    obtain ⟨hi, h1, _⟩ := h
    have : l.any p = true := List.any_eq_true.2 ⟨_, List.getElem_mem hi, h1⟩
    rw [this]; exact (decide_eq_true (Int.natCast_nonneg i)).symm
theorem f46_ok (l : List AttrM) (hl : l.length ≤ 100000) (n : ByteArray) : FnOK Try.prog 46 [] [eAttrs l, eStr n] [] (eInt (idxI (fun a => decide (a.name = n)) l)) := by
  refine FnOK.startC (rvs := [.tmp 4]) G G_good Try.func46 rfl Try.ntmps46 rfl rfl ?_; delta List.toArray; ((with_reducible conv => whnf); (with_reducible conv => congr <;> reduce); repeat ((first | (with_reducible refine HaltK.mk ?_) | (with_reducible refine StopK.mk ?_)); (with_reducible conv => whnf); (with_reducible conv => congr <;> reduce)))
  refine CallK.lit [30] (f64_ok 65 c65 [.fptr (eStr n) 0] rfl (fun a => decide (a.name = n)) l hl fun a _ => f65_ok a n) c64 ⟨rfl, ⟨rfl, trivial, ⟨_, _, _, _, _, rfl, rfl, rfl, rfl, rfl, rfl⟩, trivial⟩, trivial⟩ rfl rfl ?_; ((with_reducible conv => whnf); (with_reducible conv => congr <;> reduce); repeat ((first | (with_reducible refine HaltK.mk ?_) | (with_reducible refine StopK.mk ?_)); (with_reducible conv => whnf); (with_reducible conv => congr <;> reduce)))
  refine ⟨⟨rfl, rfl⟩, ?_, ?_⟩ <;> (with_reducible conv => whnf) <;> repeat' (first | (with_reducible exact trivial) | (with_reducible refine And.intro ?_ ?_ <;> with_reducible conv => whnf))
end Go.Proofs.Able
end
section
set_option linter.unusedSimpArgs false
set_option linter.unusedVariables false
namespace Go.Proofs.Able
open Go.Am Go.RowKit Go.Lib
set_option maxRecDepth 100000
def okA (a : AttrM) : Bool := rightS a.name && decide (lowS a.name = a.name) && decide (a.value.size ≤ 200)
theorem badA_eq (a : AttrM) : badA a = !okA a := rfl
def hasName (n : ByteArray) (a : AttrM) : Bool := decide (a.name = n)
def posA (l : List AttrM) (n : ByteArray) : Int := idxI (hasName n) l
def rightA (l : List AttrM) : Bool := decide (l.length ≤ 40) && l.all okA && decide ((l.map AttrM.name).Nodup)
def tabFrom (t : List (ByteArray × AttrM)) (l : List AttrM) : List (ByteArray × AttrM) := l.foldl (fun t a => tput a.name a t) t
def tabL (l : List AttrM) : List (ByteArray × AttrM) := tabFrom [] l
theorem tput_len {K α : Type} [DecidableEq K] (k : K) (x : α) : ∀ t : List (K × α), (tput k x t).length = if (tget k t).isSome then t.length else t.length + 1
  | [] => rfl
  | p :: r => by
    simp only [tput, tget]
    split
    · simp
    · rw [List.length_cons, tput_len k x r]; split <;> simp
theorem tabFrom_len : ∀ (l : List AttrM) (t : List (ByteArray × AttrM)), (tabFrom t l).length ≤ t.length + l.length ∧ ((tabFrom t l).length = t.length + l.length ↔ (l.map AttrM.name).Nodup ∧ ∀ a ∈ l, (tget a.name t).isSome = false)
  | [], t => by simp [tabFrom]
  | a :: r, t => by
    obtain ⟨h1, h2⟩ := tabFrom_len r (tput a.name a t)
    have hl := tput_len a.name a t
    show (tabFrom (tput a.name a t) r).length ≤ _ ∧ ((tabFrom (tput a.name a t) r).length = _ ↔ _)
    cases hg : (tget a.name t).isSome with
    | true =>
      rw [hg, if_pos rfl] at hl
      refine ⟨by simp only [List.length_cons]; omega, ⟨fun h => ?_, fun h => ?_⟩⟩
      · simp only [List.length_cons] at h; omega
      · have := h.2 a (by simp); rw [hg] at this; cases this
    | false =>
      rw [hg, if_neg (by simp)] at hl
      refine ⟨by simp only [List.length_cons]; omega, ?_⟩
      rw [show (tabFrom (tput a.name a t) r).length = t.length + (a :: r).length ↔ (tabFrom (tput a.name a t) r).length = (tput a.name a t).length + r.length from by rw [hl, List.length_cons]; omega, h2]
      simp only [List.map_cons, List.nodup_cons, List.mem_cons, forall_eq_or_imp]
      constructor
      · rintro ⟨k1, k2⟩
        refine ⟨⟨fun hm => ?_, k1⟩, hg, fun b hb => ?_⟩
        · obtain ⟨b, hb, he⟩ := List.mem_map.1 hm
          have := k2 b hb
          rw [tget_put, he, if_pos rfl] at this; cases this
        · have := k2 b hb
          rw [tget_put] at this
          split at this
          · cases this
          · exact this
      · rintro ⟨⟨k1, k2⟩, _, k3⟩
        refine ⟨k2, fun b hb => ?_⟩
        rw [tget_put, if_neg (fun e => k1 (List.mem_map.2 ⟨b, hb, e.symm⟩))]
        exact k3 b hb
theorem tabL_len (l : List AttrM) : (tabL l).length = l.length ↔ (l.map AttrM.name).Nodup := by
  have := (tabFrom_len l []).2
  simp only [List.length_nil, Nat.zero_add] at this
  exact this.trans ⟨fun h => h.1, fun h => ⟨h, fun _ _ => rfl⟩⟩
theorem tabL_le (l : List AttrM) : (tabL l).length ≤ l.length := by
  have := (tabFrom_len l []).1
  simp only [List.length_nil, Nat.zero_add] at this
  exact this
theorem tabL_snoc {l : List AttrM} {k : Nat} {a : AttrM} (h : l[k]? = some a) : tabL (l.take (k + 1)) = tput a.name a (tabL (l.take k)) := by
  have hk := (List.getElem?_eq_some_iff.1 h).1
  rw [List.take_succ_eq_append_getElem hk, (List.getElem?_eq_some_iff.1 h).2]
  simp [tabL, tabFrom, List.foldl_append]
@[reducible] def rTab (l : List AttrM) : MS := .live 2 (tRows Value.string oAttr (tabL l)) false
theorem noRef_tab (t : List (ByteArray × AttrM)) : noRefL (tRows Value.string oAttr t) = true := by
  rw [noRefL_iff]; intro x hx
  obtain ⟨a, _, rfl⟩ := List.mem_map.1 hx
  rfl
theorem f61_ok (l : List AttrM) (hl : l.length ≤ 100000) : FnOK Try.prog 61 [] [eAttrs l] [rTab l] (.mapr 0) := by
  have hlm : (l.map oAttr).length = l.length := List.length_map ..
  refine FnOK.startC (rvs := [.tmp 2]) G G_good Try.func61 rfl Try.ntmps61 rfl rfl ?_; delta List.toArray; ((with_reducible conv => whnf); (with_reducible conv => congr <;> reduce); repeat ((first | (with_reducible refine HaltK.mk ?_) | (with_reducible refine StopK.mk ?_)); (with_reducible conv => whnf); (with_reducible conv => congr <;> reduce)))
  refine LoopK.use G G_good (fun (k : Nat) => [(3, .mapr 61), (7, eAttrs l), (8, eInt l.length), (9, eInt k)]) (fun k => [(61, .live 2 (tRows Value.string oAttr (tabL (l.take k))) false)]) (fun k => k ≤ l.length) (fun k => l.length - k) 0 (Nat.zero_le _)
    ⟨⟨rfl, rfl⟩, ⟨trivial, rfl, by show (l.length : Int) = ((l.map oAttr).length : Int); rw [hlm], rfl, trivial⟩, ⟨.refl rfl, rfl⟩, trivial⟩ ?_
  intro k hk
  ((with_reducible conv => whnf); (with_reducible conv => congr <;> reduce); repeat ((first | (with_reducible refine HaltK.mk ?_) | (with_reducible refine StopK.mk ?_)); (with_reducible conv => whnf); (with_reducible conv => congr <;> reduce)))
  refine IfK.mk (fun h1 => ?_) (fun h1 => ?_) <;> (try simp only [castN] at h1) <;> ((with_reducible conv => whnf); (with_reducible conv => congr <;> reduce); repeat ((first | (with_reducible refine HaltK.mk ?_) | (with_reducible refine StopK.mk ?_)); (with_reducible conv => whnf); (with_reducible conv => congr <;> reduce)))
  · simp only [decide_eq_true_eq] at h1
    have hk' : k < l.length := by omega
    obtain ⟨a, ha⟩ : ∃ a, l[k]? = some a := ⟨_, List.getElem?_eq_getElem hk'⟩
    obtain ⟨n, v⟩ := a
    refine IdxK.mk k (eAttr ⟨n, v⟩) rfl (attr_get ha) ?_; ((with_reducible conv => whnf); (with_reducible conv => congr <;> reduce); repeat ((first | (with_reducible refine HaltK.mk ?_) | (with_reducible refine StopK.mk ?_)); (with_reducible conv => whnf); (with_reducible conv => congr <;> reduce)))
    have hle : (tabL (l.take k)).length ≤ k := Nat.le_trans (tabL_le _) (by simp; omega)
    refine PutK.tab Value.string oAttr (tabL (l.take k)) (k := n) ⟨n, v⟩ mt78 rfl key_str inj_str (by unfold maxLen; omega) rfl ?_; ((with_reducible conv => whnf); (with_reducible conv => congr <;> reduce); repeat ((first | (with_reducible refine HaltK.mk ?_) | (with_reducible refine StopK.mk ?_)); (with_reducible conv => whnf); (with_reducible conv => congr <;> reduce)))
    refine NeedK.mk (by (try simp only [castN]); omega) ?_; ((with_reducible conv => whnf); (with_reducible conv => congr <;> reduce); repeat ((first | (with_reducible refine HaltK.mk ?_) | (with_reducible refine StopK.mk ?_)); (with_reducible conv => whnf); (with_reducible conv => congr <;> reduce)))
    refine NextK.mk (k + 1) (by omega) (by omega) ⟨⟨rfl, rfl⟩, ⟨trivial, rfl, rfl, by show ((k + 1 : Nat) : Int) = (k : Int) + 1; omega, trivial⟩, ⟨?_, ?_⟩, trivial⟩
    · rw [tabL_snoc ha]; exact .refl (noRef_tab _)
    · exact noRef_tab _
  · refine ⟨⟨rfl, rfl⟩, ?_, ?_⟩ <;> (with_reducible conv => whnf) <;> repeat' (first | (with_reducible exact trivial) | (with_reducible refine And.intro ?_ ?_ <;> with_reducible conv => whnf))
    have : k = l.length := by simp only [decide_eq_false_iff_not] at h1; omega
    rw [this, List.take_length]
    exact MFL_refl (noRef_tab _)
theorem FnOK.fn1 {P : Program} {f g : FuncId} {a : AV} {outs : List MS} {res : AV} (h : FnOK P f [] [a, .clo (.func g) [] []] outs res) : FnOK P f [] [a, .lit (.func (.func g) #[] #[])] outs res := by
  intro w W0 L vs hL hs hr
  refine h w W0 L vs hL hs ⟨hr.1, fun j c v h1 h2 => ?_⟩
  match j with
  | 0 => exact hr.2 0 c v h1 h2
  | 1 =>
    have := hr.2 1 _ v rfl h2
    cases this
    simp at h1
    subst h1
    exact Rep.clo (va := []) (vb := []) rfl rfl (fun j c v h => by simp at h) (fun j c v h => by simp at h)
  | j + 2 => simp at h1
theorem right_bad (l : List AttrM) : l.any badA = !l.all okA := by
  induction l with
  | nil => rfl
  | cons a r ih => simp [List.any_cons, List.all_cons, ih, badA_eq]
theorem tab_outs (l : List AttrM) : okOuts [rTab l] := by
  refine ⟨Wide.of_mem fun r hr => ?_, noRef_tab _, trivial⟩
  obtain ⟨p, _, rfl⟩ := List.mem_map.1 hr
  rfl
theorem f44_ok (l : List AttrM) (hl : l.length ≤ 100000) : FnOK Try.prog 44 [] [eAttrs l] [] (eBool (rightA l)) := by
  have hlm : (l.map oAttr).length = l.length := List.length_map ..
  refine FnOK.startC (rvs := [.tmp 2]) G G_good Try.func44 rfl Try.ntmps44 rfl rfl ?_; delta List.toArray; ((with_reducible conv => whnf); (with_reducible conv => congr <;> reduce); repeat ((first | (with_reducible refine HaltK.mk ?_) | (with_reducible refine StopK.mk ?_)); (with_reducible conv => whnf); (with_reducible conv => congr <;> reduce)))
  repeat' (first
    | ((with_reducible show IfK _ _ _ _); first
      | (refine IfK.yes (by assumption) ?_; ((with_reducible conv => whnf); (with_reducible conv => congr <;> reduce); repeat ((first | (with_reducible refine HaltK.mk ?_) | (with_reducible refine StopK.mk ?_)); (with_reducible conv => whnf); (with_reducible conv => congr <;> reduce))))
      | (refine IfK.no (by assumption) ?_; ((with_reducible conv => whnf); (with_reducible conv => congr <;> reduce); repeat ((first | (with_reducible refine HaltK.mk ?_) | (with_reducible refine StopK.mk ?_)); (with_reducible conv => whnf); (with_reducible conv => congr <;> reduce))))
      | (with_reducible refine IfK.yes Bool.not_false ?_; ((with_reducible conv => whnf); (with_reducible conv => congr <;> reduce); repeat ((first | (with_reducible refine HaltK.mk ?_) | (with_reducible refine StopK.mk ?_)); (with_reducible conv => whnf); (with_reducible conv => congr <;> reduce))))
      | (with_reducible refine IfK.no Bool.not_true ?_; ((with_reducible conv => whnf); (with_reducible conv => congr <;> reduce); repeat ((first | (with_reducible refine HaltK.mk ?_) | (with_reducible refine StopK.mk ?_)); (with_reducible conv => whnf); (with_reducible conv => congr <;> reduce))))
      | (with_reducible refine IfK.yes (nf (by assumption)) ?_; ((with_reducible conv => whnf); (with_reducible conv => congr <;> reduce); repeat ((first | (with_reducible refine HaltK.mk ?_) | (with_reducible refine StopK.mk ?_)); (with_reducible conv => whnf); (with_reducible conv => congr <;> reduce))))
      | (with_reducible refine IfK.no (nt (by assumption)) ?_; ((with_reducible conv => whnf); (with_reducible conv => congr <;> reduce); repeat ((first | (with_reducible refine HaltK.mk ?_) | (with_reducible refine StopK.mk ?_)); (with_reducible conv => whnf); (with_reducible conv => congr <;> reduce))))
      | (with_reducible refine IfK.tt ?_; ((with_reducible conv => whnf); (with_reducible conv => congr <;> reduce); repeat ((first | (with_reducible refine HaltK.mk ?_) | (with_reducible refine StopK.mk ?_)); (with_reducible conv => whnf); (with_reducible conv => congr <;> reduce))))
      | (with_reducible refine IfK.ff ?_; ((with_reducible conv => whnf); (with_reducible conv => congr <;> reduce); repeat ((first | (with_reducible refine HaltK.mk ?_) | (with_reducible refine StopK.mk ?_)); (with_reducible conv => whnf); (with_reducible conv => congr <;> reduce))))
      | (refine IfK.mk (fun _ => ?_) (fun _ => ?_) <;> ((with_reducible conv => whnf); (with_reducible conv => congr <;> reduce); repeat ((first | (with_reducible refine HaltK.mk ?_) | (with_reducible refine StopK.mk ?_)); (with_reducible conv => whnf); (with_reducible conv => congr <;> reduce)))))
    | ((with_reducible show CallK _ _ 60 _ _ _ _); refine CallK.lit [] (FnOK.fn1 (f60_ok 59 c59 [] rfl badA l hl fun a _ => f59_ok a)) c60 ⟨rfl, MF_refl 12 _ rfl, trivial⟩ rfl rfl ?_; ((with_reducible conv => whnf); (with_reducible conv => congr <;> reduce); repeat ((first | (with_reducible refine HaltK.mk ?_) | (with_reducible refine StopK.mk ?_)); (with_reducible conv => whnf); (with_reducible conv => congr <;> reduce))))
    | ((with_reducible show CallK _ _ 61 _ _ _ _); refine CallK.new 151 [] (f61_ok l hl) c61 ⟨rfl, trivial⟩ rfl rfl rfl (tab_outs l) rfl ?_; ((with_reducible conv => whnf); (with_reducible conv => congr <;> reduce); repeat ((first | (with_reducible refine HaltK.mk ?_) | (with_reducible refine StopK.mk ?_)); (with_reducible conv => whnf); (with_reducible conv => congr <;> reduce))))
    | ((with_reducible show CountK _ _ _ _ _ _ _); refine CountK.mk mt78 ⟨_, _, rfl⟩ rfl ?_; ((with_reducible conv => whnf); (with_reducible conv => congr <;> reduce); repeat ((first | (with_reducible refine HaltK.mk ?_) | (with_reducible refine StopK.mk ?_)); (with_reducible conv => whnf); (with_reducible conv => congr <;> reduce))))
    | ((with_reducible show (_ ∧ _) ∧ _ ∧ _); refine ⟨⟨rfl, rfl⟩, ?_, ?_⟩ <;> (with_reducible conv => whnf) <;> repeat' (first | (with_reducible exact trivial) | (with_reducible refine And.intro ?_ ?_ <;> with_reducible conv => whnf))))
  · have h2 : l.all okA = true := by have := right_bad l; simp_all
    have e : (tRows Value.string oAttr (tabL l)).length = (tabL l).length := List.length_map ..
    have h3 : l.length ≤ 40 := by simp only [hlm, decide_eq_true_eq] at *; omega
    have h4 := tabL_len l
    unfold rightA
    rw [h2, decide_eq_true h3, e, hlm]
    by_cases hn : (l.map AttrM.name).Nodup
    · rw [decide_eq_true hn, h4.2 hn]; simp
    · rw [decide_eq_false hn]
      have : ¬ (tabL l).length = l.length := fun h => hn (h4.1 h)
      rw [decide_eq_false (by (try simp only [castN]); omega)]; rfl
  · have h2 : l.all okA = false := by have := right_bad l; simp_all
    unfold rightA; rw [h2]; simp
  · have h2 : decide (l.length ≤ 40) = false := by simp only [hlm, decide_eq_false_iff_not] at *; omega
    unfold rightA; rw [h2]; simp
end Go.Proofs.Able
end
section
set_option linter.unusedSimpArgs false
set_option linter.unusedVariables false
namespace Go.Proofs.Able
open Go.Am Go.RowKit Go.Lib
set_option maxRecDepth 100000
def noS : ByteArray := ⟨#[]⟩
def findE (l : List AttrM) (n : ByteArray) : Int := if rightA l then (if rightS n then 0 else 4) else 1
def findS (l : List AttrM) (n : ByteArray) : ByteArray := if rightA l && rightS n then lowS n else noS
def findP (l : List AttrM) (n : ByteArray) : Int := if rightA l && rightS n then posA l (lowS n) else -1
theorem f24_ok (l : List AttrM) (hl : l.length ≤ 100000) (n : ByteArray) : FnOK Try.prog 24 [] [eAttrs l, eStr n] [] (.tup [eStr (findS l n), eInt (findP l n), eInt (findE l n)]) := by
  refine FnOK.startC (rvs := [.tmp 4, .tmp 5, .tmp 6]) G G_good Try.func24 rfl Try.ntmps24 rfl rfl ?_; delta List.toArray; ((with_reducible conv => whnf); (with_reducible conv => congr <;> reduce); repeat ((first | (with_reducible refine HaltK.mk ?_) | (with_reducible refine StopK.mk ?_)); (with_reducible conv => whnf); (with_reducible conv => congr <;> reduce)))
  repeat' (first
    | ((with_reducible show IfK _ _ _ _); first
      | (refine IfK.yes (by assumption) ?_; ((with_reducible conv => whnf); (with_reducible conv => congr <;> reduce); repeat ((first | (with_reducible refine HaltK.mk ?_) | (with_reducible refine StopK.mk ?_)); (with_reducible conv => whnf); (with_reducible conv => congr <;> reduce))))
      | (refine IfK.no (by assumption) ?_; ((with_reducible conv => whnf); (with_reducible conv => congr <;> reduce); repeat ((first | (with_reducible refine HaltK.mk ?_) | (with_reducible refine StopK.mk ?_)); (with_reducible conv => whnf); (with_reducible conv => congr <;> reduce))))
      | (with_reducible refine IfK.yes Bool.not_false ?_; ((with_reducible conv => whnf); (with_reducible conv => congr <;> reduce); repeat ((first | (with_reducible refine HaltK.mk ?_) | (with_reducible refine StopK.mk ?_)); (with_reducible conv => whnf); (with_reducible conv => congr <;> reduce))))
      | (with_reducible refine IfK.no Bool.not_true ?_; ((with_reducible conv => whnf); (with_reducible conv => congr <;> reduce); repeat ((first | (with_reducible refine HaltK.mk ?_) | (with_reducible refine StopK.mk ?_)); (with_reducible conv => whnf); (with_reducible conv => congr <;> reduce))))
      | (with_reducible refine IfK.yes (nf (by assumption)) ?_; ((with_reducible conv => whnf); (with_reducible conv => congr <;> reduce); repeat ((first | (with_reducible refine HaltK.mk ?_) | (with_reducible refine StopK.mk ?_)); (with_reducible conv => whnf); (with_reducible conv => congr <;> reduce))))
      | (with_reducible refine IfK.no (nt (by assumption)) ?_; ((with_reducible conv => whnf); (with_reducible conv => congr <;> reduce); repeat ((first | (with_reducible refine HaltK.mk ?_) | (with_reducible refine StopK.mk ?_)); (with_reducible conv => whnf); (with_reducible conv => congr <;> reduce))))
      | (with_reducible refine IfK.tt ?_; ((with_reducible conv => whnf); (with_reducible conv => congr <;> reduce); repeat ((first | (with_reducible refine HaltK.mk ?_) | (with_reducible refine StopK.mk ?_)); (with_reducible conv => whnf); (with_reducible conv => congr <;> reduce))))
      | (with_reducible refine IfK.ff ?_; ((with_reducible conv => whnf); (with_reducible conv => congr <;> reduce); repeat ((first | (with_reducible refine HaltK.mk ?_) | (with_reducible refine StopK.mk ?_)); (with_reducible conv => whnf); (with_reducible conv => congr <;> reduce))))
      | (refine IfK.mk (fun _ => ?_) (fun _ => ?_) <;> ((with_reducible conv => whnf); (with_reducible conv => congr <;> reduce); repeat ((first | (with_reducible refine HaltK.mk ?_) | (with_reducible refine StopK.mk ?_)); (with_reducible conv => whnf); (with_reducible conv => congr <;> reduce)))))
    | ((with_reducible show CallK _ _ 44 _ _ _ _); refine CallK.lit [] (f44_ok l hl) c44 ⟨rfl, trivial⟩ rfl rfl ?_; ((with_reducible conv => whnf); (with_reducible conv => congr <;> reduce); repeat ((first | (with_reducible refine HaltK.mk ?_) | (with_reducible refine StopK.mk ?_)); (with_reducible conv => whnf); (with_reducible conv => congr <;> reduce))))
    | ((with_reducible show CallK _ _ 45 _ _ _ _); refine CallK.lit [] (f45_ok _) c45 ⟨rfl, trivial⟩ rfl rfl ?_; ((with_reducible conv => whnf); (with_reducible conv => congr <;> reduce); repeat ((first | (with_reducible refine HaltK.mk ?_) | (with_reducible refine StopK.mk ?_)); (with_reducible conv => whnf); (with_reducible conv => congr <;> reduce))))
    | ((with_reducible show CallK _ _ 46 _ _ _ _); refine CallK.lit [] (f46_ok l hl _) c46 ⟨rfl, rfl, trivial⟩ rfl rfl ?_; ((with_reducible conv => whnf); (with_reducible conv => congr <;> reduce); repeat ((first | (with_reducible refine HaltK.mk ?_) | (with_reducible refine StopK.mk ?_)); (with_reducible conv => whnf); (with_reducible conv => congr <;> reduce))))
    | ((with_reducible show (_ ∧ _) ∧ _ ∧ _); refine ⟨⟨rfl, rfl⟩, ?_, ?_⟩ <;> (with_reducible conv => whnf) <;> repeat' (first | (with_reducible exact trivial) | (with_reducible refine And.intro ?_ ?_ <;> with_reducible conv => whnf))))
  all_goals (cases h1 : rightA l <;> cases h2 : rightS n <;> simp_all [findE, findS, findP, noS])
  rfl
def getS (l : List AttrM) (n : ByteArray) : ByteArray := if 0 ≤ findP l n then ((l[(findP l n).toNat]?).map AttrM.value).getD noS else noS
theorem idxI_cases {α : Type} (p : α → Bool) (l : List α) : idxI p l = -1 ∨ ∃ (k : Nat) (a : α), idxI p l = k ∧ l[k]? = some a ∧ p a = true := by
  unfold idxI
  cases h : l.findIdx? p with
  | none => exact .inl rfl
  | some k =>
    rw [List.findIdx?_eq_some_iff_getElem] at h
    obtain ⟨hk, h1, _⟩ := h
    exact .inr ⟨k, _, rfl, List.getElem?_eq_getElem hk, h1⟩
theorem findP_cases (l : List AttrM) (n : ByteArray) : findP l n = -1 ∨ ∃ (k : Nat) (a : AttrM), findP l n = k ∧ l[k]? = some a ∧ a.name = lowS n := by
  unfold findP
  split
  · rcases idxI_cases (hasName (lowS n)) l with h | ⟨k, a, h1, h2, h3⟩
    · exact .inl h
    · exact .inr ⟨k, a, h1, h2, by simpa [hasName] using h3⟩
  · exact .inl rfl
theorem f14_ok (l : List AttrM) (hl : l.length ≤ 100000) (n : ByteArray) : FnOK Try.prog 14 [] [eAttrs l, eStr n] [] (.tup [eStr (getS l n), eBool (decide (0 ≤ findP l n))]) := by
  refine FnOK.startC (rvs := [.tmp 4, .tmp 5]) G G_good Try.func14 rfl Try.ntmps14 rfl rfl ?_; delta List.toArray; ((with_reducible conv => whnf); (with_reducible conv => congr <;> reduce); repeat ((first | (with_reducible refine HaltK.mk ?_) | (with_reducible refine StopK.mk ?_)); (with_reducible conv => whnf); (with_reducible conv => congr <;> reduce)))
  refine CallK.lit [] (f24_ok l hl n) c24 ⟨rfl, rfl, trivial⟩ rfl rfl ?_; ((with_reducible conv => whnf); (with_reducible conv => congr <;> reduce); repeat ((first | (with_reducible refine HaltK.mk ?_) | (with_reducible refine StopK.mk ?_)); (with_reducible conv => whnf); (with_reducible conv => congr <;> reduce)))
  rcases findP_cases l n with h | ⟨k, a, h, ha, hn⟩
  · simp only [h]
    refine IfK.yes rfl ?_; ((with_reducible conv => whnf); (with_reducible conv => congr <;> reduce); repeat ((first | (with_reducible refine HaltK.mk ?_) | (with_reducible refine StopK.mk ?_)); (with_reducible conv => whnf); (with_reducible conv => congr <;> reduce)))
    refine ⟨⟨rfl, rfl⟩, ?_, ?_⟩ <;> (with_reducible conv => whnf) <;> repeat' (first | (with_reducible exact trivial) | (with_reducible refine And.intro ?_ ?_ <;> with_reducible conv => whnf))
    · unfold getS; rw [h]; rfl
    · rfl
  · simp only [h]
    refine IfK.no (decide_eq_false (by (try simp only [castN]); omega)) ?_; ((with_reducible conv => whnf); (with_reducible conv => congr <;> reduce); repeat ((first | (with_reducible refine HaltK.mk ?_) | (with_reducible refine StopK.mk ?_)); (with_reducible conv => whnf); (with_reducible conv => congr <;> reduce)))
    refine IdxK.mk k (eAttr a) rfl (attr_get ha) ?_; ((with_reducible conv => whnf); (with_reducible conv => congr <;> reduce); repeat ((first | (with_reducible refine HaltK.mk ?_) | (with_reducible refine StopK.mk ?_)); (with_reducible conv => whnf); (with_reducible conv => congr <;> reduce)))
    refine ⟨⟨rfl, rfl⟩, ?_, ?_⟩ <;> (with_reducible conv => whnf) <;> repeat' (first | (with_reducible exact trivial) | (with_reducible refine And.intro ?_ ?_ <;> with_reducible conv => whnf))
    · unfold getS; rw [h, if_pos (by omega), Int.toNat_natCast, ha]; rfl
    · exact decide_eq_true (by omega)
end Go.Proofs.Able
end
section
set_option linter.unusedSimpArgs false
set_option linter.unusedVariables false
namespace Go.Proofs.Able
open Go.Am Go.RowKit Go.Lib
set_option maxRecDepth 100000
set_option maxHeartbeats 0 in
theorem f30_ok (s : ByteArray) : FnOK Try.prog 30 [] [eStr s] [] (eBool (rightS s)) := by
  have hsz : s.size = s.data.toList.length := size_len s
  refine FnOK.startC (rvs := [.tmp 2]) G G_good Try.func30 rfl Try.ntmps30 rfl rfl ?_; delta List.toArray; ((with_reducible conv => whnf); (with_reducible conv => congr <;> reduce); repeat ((first | (with_reducible refine HaltK.mk ?_) | (with_reducible refine StopK.mk ?_)); (with_reducible conv => whnf); (with_reducible conv => congr <;> reduce)))
  repeat' (first
    | ((with_reducible show IfK _ _ _ _); first
      | (refine IfK.yes (by assumption) ?_; ((with_reducible conv => whnf); (with_reducible conv => congr <;> reduce); repeat ((first | (with_reducible refine HaltK.mk ?_) | (with_reducible refine StopK.mk ?_)); (with_reducible conv => whnf); (with_reducible conv => congr <;> reduce))))
      | (refine IfK.no (by assumption) ?_; ((with_reducible conv => whnf); (with_reducible conv => congr <;> reduce); repeat ((first | (with_reducible refine HaltK.mk ?_) | (with_reducible refine StopK.mk ?_)); (with_reducible conv => whnf); (with_reducible conv => congr <;> reduce))))
      | (with_reducible refine IfK.yes Bool.not_false ?_; ((with_reducible conv => whnf); (with_reducible conv => congr <;> reduce); repeat ((first | (with_reducible refine HaltK.mk ?_) | (with_reducible refine StopK.mk ?_)); (with_reducible conv => whnf); (with_reducible conv => congr <;> reduce))))
      | (with_reducible refine IfK.no Bool.not_true ?_; ((with_reducible conv => whnf); (with_reducible conv => congr <;> reduce); repeat ((first | (with_reducible refine HaltK.mk ?_) | (with_reducible refine StopK.mk ?_)); (with_reducible conv => whnf); (with_reducible conv => congr <;> reduce))))
      | (with_reducible refine IfK.yes (nf (by assumption)) ?_; ((with_reducible conv => whnf); (with_reducible conv => congr <;> reduce); repeat ((first | (with_reducible refine HaltK.mk ?_) | (with_reducible refine StopK.mk ?_)); (with_reducible conv => whnf); (with_reducible conv => congr <;> reduce))))
      | (with_reducible refine IfK.no (nt (by assumption)) ?_; ((with_reducible conv => whnf); (with_reducible conv => congr <;> reduce); repeat ((first | (with_reducible refine HaltK.mk ?_) | (with_reducible refine StopK.mk ?_)); (with_reducible conv => whnf); (with_reducible conv => congr <;> reduce))))
      | (with_reducible refine IfK.tt ?_; ((with_reducible conv => whnf); (with_reducible conv => congr <;> reduce); repeat ((first | (with_reducible refine HaltK.mk ?_) | (with_reducible refine StopK.mk ?_)); (with_reducible conv => whnf); (with_reducible conv => congr <;> reduce))))
      | (with_reducible refine IfK.ff ?_; ((with_reducible conv => whnf); (with_reducible conv => congr <;> reduce); repeat ((first | (with_reducible refine HaltK.mk ?_) | (with_reducible refine StopK.mk ?_)); (with_reducible conv => whnf); (with_reducible conv => congr <;> reduce))))
      | (refine IfK.mk (fun _ => ?_) (fun _ => ?_) <;> ((with_reducible conv => whnf); (with_reducible conv => congr <;> reduce); repeat ((first | (with_reducible refine HaltK.mk ?_) | (with_reducible refine StopK.mk ?_)); (with_reducible conv => whnf); (with_reducible conv => congr <;> reduce)))))
    | ((with_reducible show (_ ∧ _) ∧ _ ∧ _); refine ⟨⟨rfl, rfl⟩, ?_, ?_⟩ <;> (with_reducible conv => whnf) <;> repeat' (first | (with_reducible exact trivial) | (with_reducible refine And.intro ?_ ?_ <;> with_reducible conv => whnf))))
  all_goals (simp only [decide_eq_true_eq, decide_eq_false_iff_not, hsz] at *)
  · unfold rightS rightL
    rw [show decide (1 ≤ s.data.toList.length) = false from decide_eq_false (by omega)]; rfl
  · unfold rightS rightL
    rw [show decide (s.data.toList.length ≤ 40) = false from decide_eq_false (by omega)]; simp
  · have hr := rightL_at (l := s.data.toList) (by omega) (by omega)
    refine LoopK.use G G_good (fun (k : Nat) => [(0, eStr s), (3, eInt k)]) (fun _ => []) (fun k => k ≤ s.data.toList.length ∧ ∀ i b, i < k → s.data.toList[i]? = some b → okAt i b = true) (fun k => s.data.toList.length - k) 0 ⟨Nat.zero_le _, fun i _ h => by omega⟩ ⟨⟨rfl, rfl⟩, ⟨rfl, rfl, trivial⟩, trivial⟩ ?_
    rintro k ⟨hk, hok⟩
    ((with_reducible conv => whnf); (with_reducible conv => congr <;> reduce); repeat ((first | (with_reducible refine HaltK.mk ?_) | (with_reducible refine StopK.mk ?_)); (with_reducible conv => whnf); (with_reducible conv => congr <;> reduce)))
    refine IfK.mk (fun h1 => ?_) (fun h1 => ?_) <;> (try simp only [castN] at h1) <;> ((with_reducible conv => whnf); (with_reducible conv => congr <;> reduce); repeat ((first | (with_reducible refine HaltK.mk ?_) | (with_reducible refine StopK.mk ?_)); (with_reducible conv => whnf); (with_reducible conv => congr <;> reduce)))
    · simp only [decide_eq_true_eq] at h1
      have hk' : k < s.data.toList.length := by rw [← size_len s]; omega
      obtain ⟨b, hb⟩ : ∃ b, s.data.toList[k]? = some b := ⟨_, List.getElem?_eq_getElem hk'⟩
      refine IdxSK.mk k b rfl hb ?_; ((with_reducible conv => whnf); (with_reducible conv => congr <;> reduce); repeat ((first | (with_reducible refine HaltK.mk ?_) | (with_reducible refine StopK.mk ?_)); (with_reducible conv => whnf); (with_reducible conv => congr <;> reduce)))
      have next : okAt k b = true → ∀ i c, i < k + 1 → s.data.toList[i]? = some c → okAt i c = true := by
        intro h i c hi hc
        rcases Nat.lt_or_ge i k with h6 | h6
        · exact hok i c h6 hc
        · have : i = k := by omega
          subst this
          rw [hb] at hc; cases hc; exact h
      have no : okAt k b = false → rightS s = false := by
        intro h
        cases h' : rightS s with
        | false => rfl
        | true => rw [hr.1 h' k b hb] at h; cases h
      have hb256 : b.toNat < 256 := UInt8.toNat_lt b
      obtain ⟨c, hcb⟩ : ∃ c : Int, (b.toNat : Int) = c := ⟨_, rfl⟩
      have hc : (0 ≤ c ∧ c ≤ 44) ∨ (45 ≤ c ∧ c ≤ 45) ∨ (46 ≤ c ∧ c ≤ 46) ∨ (47 ≤ c ∧ c ≤ 47) ∨ (48 ≤ c ∧ c ≤ 57) ∨ (58 ≤ c ∧ c ≤ 64) ∨ (65 ≤ c ∧ c ≤ 90) ∨ (91 ≤ c ∧ c ≤ 94) ∨ (95 ≤ c ∧ c ≤ 95) ∨ (96 ≤ c ∧ c ≤ 96) ∨ (97 ≤ c ∧ c ≤ 122) ∨ (123 ≤ c ∧ c ≤ 255) := by omega
      have hok' : okAt k b = ((decide (97 ≤ c) && decide (c ≤ 122) || decide (65 ≤ c) && decide (c ≤ 90)) || decide (c = 95) || (decide (0 < k) && ((decide (97 ≤ c) && decide (c ≤ 122)) || (decide (65 ≤ c) && decide (c ≤ 90)) || (decide (48 ≤ c) && decide (c ≤ 57)) || decide (c = 45) || decide (c = 95) || decide (c = 46)))) := by
        simp only [okAt, signB, signC, smallC, capC, hcb]
      simp only [hcb]
      have n1 : (!false) = true := rfl
      have n2 : (!true) = false := rfl
      obtain ⟨K0, hK0⟩ : ∃ K0, decide ((k : Int) = 0) = K0 := ⟨_, rfl⟩
      have hk0 : decide (0 < k) = !K0 := by rw [← hK0]; rcases Nat.eq_zero_or_pos k with h | h
                                            · subst h; rfl
                                            · rw [decide_eq_true h, decide_eq_false (by omega)]; rfl
      rw [hk0] at hok'
      rcases hc with ⟨u1, u2⟩ | ⟨u1, u2⟩ | ⟨u1, u2⟩ | ⟨u1, u2⟩ | ⟨u1, u2⟩ | ⟨u1, u2⟩ | ⟨u1, u2⟩ | ⟨u1, u2⟩ | ⟨u1, u2⟩ | ⟨u1, u2⟩ | ⟨u1, u2⟩ | ⟨u1, u2⟩
      · have e0 : decide (97 ≤ c) = false := decide_eq_false (by omega)
        have e1 : decide (c ≤ 122) = true := decide_eq_true (by omega)
        have e2 : decide (65 ≤ c) = false := decide_eq_false (by omega)
        have e3 : decide (c ≤ 90) = true := decide_eq_true (by omega)
        have e4 : decide (48 ≤ c) = false := decide_eq_false (by omega)
        have e5 : decide (c ≤ 57) = true := decide_eq_true (by omega)
        have e6 : decide (c = 45) = false := decide_eq_false (by omega)
        have e7 : decide (c = 46) = false := decide_eq_false (by omega)
        have e8 : decide (c = 95) = false := decide_eq_false (by omega)
        have e9 : (!decide (c = 95)) = true := by rw [e8]; rfl
        have f5 : (!decide (c ≤ 57)) = !(decide (c ≤ 57)) := rfl
        rw [e5] at f5
        have f6 : (!decide (c = 45)) = !(decide (c = 45)) := rfl
        rw [e6] at f6
        have f7 : (!decide (c = 46)) = !(decide (c = 46)) := rfl
        rw [e7] at f7
        simp only [Bool.not_true, Bool.not_false] at f5
        simp only [Bool.not_true, Bool.not_false] at f6
        simp only [Bool.not_true, Bool.not_false] at f7
        simp only [e0, e1, e2, e3, e4, e5, e6, e7, e8, Bool.and_true, Bool.true_and, Bool.and_false, Bool.false_and, Bool.or_true, Bool.true_or, Bool.or_false, Bool.false_or] at hok'
        cases K0
        all_goals (try simp only [Bool.not_true, Bool.not_false] at hok')
        repeat' (first
    | ((with_reducible show IfK _ _ _ _); first
      | (refine IfK.yes (by assumption) ?_; ((with_reducible conv => whnf); (with_reducible conv => congr <;> reduce); repeat ((first | (with_reducible refine HaltK.mk ?_) | (with_reducible refine StopK.mk ?_)); (with_reducible conv => whnf); (with_reducible conv => congr <;> reduce))))
      | (refine IfK.no (by assumption) ?_; ((with_reducible conv => whnf); (with_reducible conv => congr <;> reduce); repeat ((first | (with_reducible refine HaltK.mk ?_) | (with_reducible refine StopK.mk ?_)); (with_reducible conv => whnf); (with_reducible conv => congr <;> reduce))))
      | (with_reducible refine IfK.yes Bool.not_false ?_; ((with_reducible conv => whnf); (with_reducible conv => congr <;> reduce); repeat ((first | (with_reducible refine HaltK.mk ?_) | (with_reducible refine StopK.mk ?_)); (with_reducible conv => whnf); (with_reducible conv => congr <;> reduce))))
      | (with_reducible refine IfK.no Bool.not_true ?_; ((with_reducible conv => whnf); (with_reducible conv => congr <;> reduce); repeat ((first | (with_reducible refine HaltK.mk ?_) | (with_reducible refine StopK.mk ?_)); (with_reducible conv => whnf); (with_reducible conv => congr <;> reduce))))
      | (with_reducible refine IfK.yes (nf (by assumption)) ?_; ((with_reducible conv => whnf); (with_reducible conv => congr <;> reduce); repeat ((first | (with_reducible refine HaltK.mk ?_) | (with_reducible refine StopK.mk ?_)); (with_reducible conv => whnf); (with_reducible conv => congr <;> reduce))))
      | (with_reducible refine IfK.no (nt (by assumption)) ?_; ((with_reducible conv => whnf); (with_reducible conv => congr <;> reduce); repeat ((first | (with_reducible refine HaltK.mk ?_) | (with_reducible refine StopK.mk ?_)); (with_reducible conv => whnf); (with_reducible conv => congr <;> reduce))))
      | (with_reducible refine IfK.tt ?_; ((with_reducible conv => whnf); (with_reducible conv => congr <;> reduce); repeat ((first | (with_reducible refine HaltK.mk ?_) | (with_reducible refine StopK.mk ?_)); (with_reducible conv => whnf); (with_reducible conv => congr <;> reduce))))
      | (with_reducible refine IfK.ff ?_; ((with_reducible conv => whnf); (with_reducible conv => congr <;> reduce); repeat ((first | (with_reducible refine HaltK.mk ?_) | (with_reducible refine StopK.mk ?_)); (with_reducible conv => whnf); (with_reducible conv => congr <;> reduce))))
      | (refine IfK.mk (fun _ => ?_) (fun _ => ?_) <;> ((with_reducible conv => whnf); (with_reducible conv => congr <;> reduce); repeat ((first | (with_reducible refine HaltK.mk ?_) | (with_reducible refine StopK.mk ?_)); (with_reducible conv => whnf); (with_reducible conv => congr <;> reduce)))))
    | ((with_reducible show NeedK _ _ _ _); refine NeedK.mk (by (try simp only [castN]); omega) ?_; ((with_reducible conv => whnf); (with_reducible conv => congr <;> reduce); repeat ((first | (with_reducible refine HaltK.mk ?_) | (with_reducible refine StopK.mk ?_)); (with_reducible conv => whnf); (with_reducible conv => congr <;> reduce))))
    | ((with_reducible show NextK _ _); refine NextK.mk (k + 1) ⟨by omega, next ?_⟩ (by omega) ⟨⟨rfl, rfl⟩, ⟨rfl, by show ((k + 1 : Nat) : Int) = (k : Int) + 1; omega, trivial⟩, trivial⟩)
    | ((with_reducible show (_ ∧ _) ∧ _ ∧ _); refine ⟨⟨rfl, rfl⟩, ?_, ?_⟩ <;> (with_reducible conv => whnf) <;> repeat' (first | (with_reducible exact trivial) | (with_reducible refine And.intro ?_ ?_ <;> with_reducible conv => whnf))))
        all_goals first
          | exact no hok'
          | exact hok'
          | trace_state
      · have e0 : decide (97 ≤ c) = false := decide_eq_false (by omega)
        have e1 : decide (c ≤ 122) = true := decide_eq_true (by omega)
        have e2 : decide (65 ≤ c) = false := decide_eq_false (by omega)
        have e3 : decide (c ≤ 90) = true := decide_eq_true (by omega)
        have e4 : decide (48 ≤ c) = false := decide_eq_false (by omega)
        have e5 : decide (c ≤ 57) = true := decide_eq_true (by omega)
        have e6 : decide (c = 45) = true := decide_eq_true (by omega)
        have e7 : decide (c = 46) = false := decide_eq_false (by omega)
        have e8 : decide (c = 95) = false := decide_eq_false (by omega)
        have e9 : (!decide (c = 95)) = true := by rw [e8]; rfl
        have f5 : (!decide (c ≤ 57)) = !(decide (c ≤ 57)) := rfl
        rw [e5] at f5
        have f6 : (!decide (c = 45)) = !(decide (c = 45)) := rfl
        rw [e6] at f6
        have f7 : (!decide (c = 46)) = !(decide (c = 46)) := rfl
        rw [e7] at f7
        simp only [Bool.not_true, Bool.not_false] at f5
        simp only [Bool.not_true, Bool.not_false] at f6
        simp only [Bool.not_true, Bool.not_false] at f7
        simp only [e0, e1, e2, e3, e4, e5, e6, e7, e8, Bool.and_true, Bool.true_and, Bool.and_false, Bool.false_and, Bool.or_true, Bool.true_or, Bool.or_false, Bool.false_or] at hok'
        cases K0
        all_goals (try simp only [Bool.not_true, Bool.not_false] at hok')
        repeat' (first
    | ((with_reducible show IfK _ _ _ _); first
      | (refine IfK.yes (by assumption) ?_; ((with_reducible conv => whnf); (with_reducible conv => congr <;> reduce); repeat ((first | (with_reducible refine HaltK.mk ?_) | (with_reducible refine StopK.mk ?_)); (with_reducible conv => whnf); (with_reducible conv => congr <;> reduce))))
      | (refine IfK.no (by assumption) ?_; ((with_reducible conv => whnf); (with_reducible conv => congr <;> reduce); repeat ((first | (with_reducible refine HaltK.mk ?_) | (with_reducible refine StopK.mk ?_)); (with_reducible conv => whnf); (with_reducible conv => congr <;> reduce))))
      | (with_reducible refine IfK.yes Bool.not_false ?_; ((with_reducible conv => whnf); (with_reducible conv => congr <;> reduce); repeat ((first | (with_reducible refine HaltK.mk ?_) | (with_reducible refine StopK.mk ?_)); (with_reducible conv => whnf); (with_reducible conv => congr <;> reduce))))
      | (with_reducible refine IfK.no Bool.not_true ?_; ((with_reducible conv => whnf); (with_reducible conv => congr <;> reduce); repeat ((first | (with_reducible refine HaltK.mk ?_) | (with_reducible refine StopK.mk ?_)); (with_reducible conv => whnf); (with_reducible conv => congr <;> reduce))))
      | (with_reducible refine IfK.yes (nf (by assumption)) ?_; ((with_reducible conv => whnf); (with_reducible conv => congr <;> reduce); repeat ((first | (with_reducible refine HaltK.mk ?_) | (with_reducible refine StopK.mk ?_)); (with_reducible conv => whnf); (with_reducible conv => congr <;> reduce))))
      | (with_reducible refine IfK.no (nt (by assumption)) ?_; ((with_reducible conv => whnf); (with_reducible conv => congr <;> reduce); repeat ((first | (with_reducible refine HaltK.mk ?_) | (with_reducible refine StopK.mk ?_)); (with_reducible conv => whnf); (with_reducible conv => congr <;> reduce))))
      | (with_reducible refine IfK.tt ?_; ((with_reducible conv => whnf); (with_reducible conv => congr <;> reduce); repeat ((first | (with_reducible refine HaltK.mk ?_) | (with_reducible refine StopK.mk ?_)); (with_reducible conv => whnf); (with_reducible conv => congr <;> reduce))))
      | (with_reducible refine IfK.ff ?_; ((with_reducible conv => whnf); (with_reducible conv => congr <;> reduce); repeat ((first | (with_reducible refine HaltK.mk ?_) | (with_reducible refine StopK.mk ?_)); (with_reducible conv => whnf); (with_reducible conv => congr <;> reduce))))
      | (refine IfK.mk (fun _ => ?_) (fun _ => ?_) <;> ((with_reducible conv => whnf); (with_reducible conv => congr <;> reduce); repeat ((first | (with_reducible refine HaltK.mk ?_) | (with_reducible refine StopK.mk ?_)); (with_reducible conv => whnf); (with_reducible conv => congr <;> reduce)))))
    | ((with_reducible show NeedK _ _ _ _); refine NeedK.mk (by (try simp only [castN]); omega) ?_; ((with_reducible conv => whnf); (with_reducible conv => congr <;> reduce); repeat ((first | (with_reducible refine HaltK.mk ?_) | (with_reducible refine StopK.mk ?_)); (with_reducible conv => whnf); (with_reducible conv => congr <;> reduce))))
    | ((with_reducible show NextK _ _); refine NextK.mk (k + 1) ⟨by omega, next ?_⟩ (by omega) ⟨⟨rfl, rfl⟩, ⟨rfl, by show ((k + 1 : Nat) : Int) = (k : Int) + 1; omega, trivial⟩, trivial⟩)
    | ((with_reducible show (_ ∧ _) ∧ _ ∧ _); refine ⟨⟨rfl, rfl⟩, ?_, ?_⟩ <;> (with_reducible conv => whnf) <;> repeat' (first | (with_reducible exact trivial) | (with_reducible refine And.intro ?_ ?_ <;> with_reducible conv => whnf))))
        all_goals first
          | exact no hok'
          | exact hok'
          | trace_state
      · have e0 : decide (97 ≤ c) = false := decide_eq_false (by omega)
        have e1 : decide (c ≤ 122) = true := decide_eq_true (by omega)
        have e2 : decide (65 ≤ c) = false := decide_eq_false (by omega)
        have e3 : decide (c ≤ 90) = true := decide_eq_true (by omega)
        have e4 : decide (48 ≤ c) = false := decide_eq_false (by omega)
        have e5 : decide (c ≤ 57) = true := decide_eq_true (by omega)
        have e6 : decide (c = 45) = false := decide_eq_false (by omega)
        have e7 : decide (c = 46) = true := decide_eq_true (by omega)
        have e8 : decide (c = 95) = false := decide_eq_false (by omega)
        have e9 : (!decide (c = 95)) = true := by rw [e8]; rfl
        have f5 : (!decide (c ≤ 57)) = !(decide (c ≤ 57)) := rfl
        rw [e5] at f5
        have f6 : (!decide (c = 45)) = !(decide (c = 45)) := rfl
        rw [e6] at f6
        have f7 : (!decide (c = 46)) = !(decide (c = 46)) := rfl
        rw [e7] at f7
        simp only [Bool.not_true, Bool.not_false] at f5
        simp only [Bool.not_true, Bool.not_false] at f6
        simp only [Bool.not_true, Bool.not_false] at f7
        simp only [e0, e1, e2, e3, e4, e5, e6, e7, e8, Bool.and_true, Bool.true_and, Bool.and_false, Bool.false_and, Bool.or_true, Bool.true_or, Bool.or_false, Bool.false_or] at hok'
        cases K0
        all_goals (try simp only [Bool.not_true, Bool.not_false] at hok')
        repeat' (first
    | ((with_reducible show IfK _ _ _ _); first
      | (refine IfK.yes (by assumption) ?_; ((with_reducible conv => whnf); (with_reducible conv => congr <;> reduce); repeat ((first | (with_reducible refine HaltK.mk ?_) | (with_reducible refine StopK.mk ?_)); (with_reducible conv => whnf); (with_reducible conv => congr <;> reduce))))
      | (refine IfK.no (by assumption) ?_; ((with_reducible conv => whnf); (with_reducible conv => congr <;> reduce); repeat ((first | (with_reducible refine HaltK.mk ?_) | (with_reducible refine StopK.mk ?_)); (with_reducible conv => whnf); (with_reducible conv => congr <;> reduce))))
      | (with_reducible refine IfK.yes Bool.not_false ?_; ((with_reducible conv => whnf); (with_reducible conv => congr <;> reduce); repeat ((first | (with_reducible refine HaltK.mk ?_) | (with_reducible refine StopK.mk ?_)); (with_reducible conv => whnf); (with_reducible conv => congr <;> reduce))))
      | (with_reducible refine IfK.no Bool.not_true ?_; ((with_reducible conv => whnf); (with_reducible conv => congr <;> reduce); repeat ((first | (with_reducible refine HaltK.mk ?_) | (with_reducible refine StopK.mk ?_)); (with_reducible conv => whnf); (with_reducible conv => congr <;> reduce))))
      | (with_reducible refine IfK.yes (nf (by assumption)) ?_; ((with_reducible conv => whnf); (with_reducible conv => congr <;> reduce); repeat ((first | (with_reducible refine HaltK.mk ?_) | (with_reducible refine StopK.mk ?_)); (with_reducible conv => whnf); (with_reducible conv => congr <;> reduce))))
      | (with_reducible refine IfK.no (nt (by assumption)) ?_; ((with_reducible conv => whnf); (with_reducible conv => congr <;> reduce); repeat ((first | (with_reducible refine HaltK.mk ?_) | (with_reducible refine StopK.mk ?_)); (with_reducible conv => whnf); (with_reducible conv => congr <;> reduce))))
      | (with_reducible refine IfK.tt ?_; ((with_reducible conv => whnf); (with_reducible conv => congr <;> reduce); repeat ((first | (with_reducible refine HaltK.mk ?_) | (with_reducible refine StopK.mk ?_)); (with_reducible conv => whnf); (with_reducible conv => congr <;> reduce))))
      | (with_reducible refine IfK.ff ?_; ((with_reducible conv => whnf); (with_reducible conv => congr <;> reduce); repeat ((first | (with_reducible refine HaltK.mk ?_) | (with_reducible refine StopK.mk ?_)); (with_reducible conv => whnf); (with_reducible conv => congr <;> reduce))))
      | (refine IfK.mk (fun _ => ?_) (fun _ => ?_) <;> ((with_reducible conv => whnf); (with_reducible conv => congr <;> reduce); repeat ((first | (with_reducible refine HaltK.mk ?_) | (with_reducible refine StopK.mk ?_)); (with_reducible conv => whnf); (with_reducible conv => congr <;> reduce)))))
    | ((with_reducible show NeedK _ _ _ _); refine NeedK.mk (by (try simp only [castN]); omega) ?_; ((with_reducible conv => whnf); (with_reducible conv => congr <;> reduce); repeat ((first | (with_reducible refine HaltK.mk ?_) | (with_reducible refine StopK.mk ?_)); (with_reducible conv => whnf); (with_reducible conv => congr <;> reduce))))
    | ((with_reducible show NextK _ _); refine NextK.mk (k + 1) ⟨by omega, next ?_⟩ (by omega) ⟨⟨rfl, rfl⟩, ⟨rfl, by show ((k + 1 : Nat) : Int) = (k : Int) + 1; omega, trivial⟩, trivial⟩)
    | ((with_reducible show (_ ∧ _) ∧ _ ∧ _); refine ⟨⟨rfl, rfl⟩, ?_, ?_⟩ <;> (with_reducible conv => whnf) <;> repeat' (first | (with_reducible exact trivial) | (with_reducible refine And.intro ?_ ?_ <;> with_reducible conv => whnf))))
        all_goals first
          | exact no hok'
          | exact hok'
          | trace_state
      · have e0 : decide (97 ≤ c) = false := decide_eq_false (by omega)
        have e1 : decide (c ≤ 122) = true := decide_eq_true (by omega)
        have e2 : decide (65 ≤ c) = false := decide_eq_false (by omega)
        have e3 : decide (c ≤ 90) = true := decide_eq_true (by omega)
        have e4 : decide (48 ≤ c) = false := decide_eq_false (by omega)
        have e5 : decide (c ≤ 57) = true := decide_eq_true (by omega)
        have e6 : decide (c = 45) = false := decide_eq_false (by omega)
        have e7 : decide (c = 46) = false := decide_eq_false (by omega)
        have e8 : decide (c = 95) = false := decide_eq_false (by omega)
        have e9 : (!decide (c = 95)) = true := by rw [e8]; rfl
        have f5 : (!decide (c ≤ 57)) = !(decide (c ≤ 57)) := rfl
        rw [e5] at f5
        have f6 : (!decide (c = 45)) = !(decide (c = 45)) := rfl
        rw [e6] at f6
        have f7 : (!decide (c = 46)) = !(decide (c = 46)) := rfl
        rw [e7] at f7
        simp only [Bool.not_true, Bool.not_false] at f5
        simp only [Bool.not_true, Bool.not_false] at f6
        simp only [Bool.not_true, Bool.not_false] at f7
        simp only [e0, e1, e2, e3, e4, e5, e6, e7, e8, Bool.and_true, Bool.true_and, Bool.and_false, Bool.false_and, Bool.or_true, Bool.true_or, Bool.or_false, Bool.false_or] at hok'
        cases K0
        all_goals (try simp only [Bool.not_true, Bool.not_false] at hok')
        repeat' (first
    | ((with_reducible show IfK _ _ _ _); first
      | (refine IfK.yes (by assumption) ?_; ((with_reducible conv => whnf); (with_reducible conv => congr <;> reduce); repeat ((first | (with_reducible refine HaltK.mk ?_) | (with_reducible refine StopK.mk ?_)); (with_reducible conv => whnf); (with_reducible conv => congr <;> reduce))))
      | (refine IfK.no (by assumption) ?_; ((with_reducible conv => whnf); (with_reducible conv => congr <;> reduce); repeat ((first | (with_reducible refine HaltK.mk ?_) | (with_reducible refine StopK.mk ?_)); (with_reducible conv => whnf); (with_reducible conv => congr <;> reduce))))
      | (with_reducible refine IfK.yes Bool.not_false ?_; ((with_reducible conv => whnf); (with_reducible conv => congr <;> reduce); repeat ((first | (with_reducible refine HaltK.mk ?_) | (with_reducible refine StopK.mk ?_)); (with_reducible conv => whnf); (with_reducible conv => congr <;> reduce))))
      | (with_reducible refine IfK.no Bool.not_true ?_; ((with_reducible conv => whnf); (with_reducible conv => congr <;> reduce); repeat ((first | (with_reducible refine HaltK.mk ?_) | (with_reducible refine StopK.mk ?_)); (with_reducible conv => whnf); (with_reducible conv => congr <;> reduce))))
      | (with_reducible refine IfK.yes (nf (by assumption)) ?_; ((with_reducible conv => whnf); (with_reducible conv => congr <;> reduce); repeat ((first | (with_reducible refine HaltK.mk ?_) | (with_reducible refine StopK.mk ?_)); (with_reducible conv => whnf); (with_reducible conv => congr <;> reduce))))
      | (with_reducible refine IfK.no (nt (by assumption)) ?_; ((with_reducible conv => whnf); (with_reducible conv => congr <;> reduce); repeat ((first | (with_reducible refine HaltK.mk ?_) | (with_reducible refine StopK.mk ?_)); (with_reducible conv => whnf); (with_reducible conv => congr <;> reduce))))
      | (with_reducible refine IfK.tt ?_; ((with_reducible conv => whnf); (with_reducible conv => congr <;> reduce); repeat ((first | (with_reducible refine HaltK.mk ?_) | (with_reducible refine StopK.mk ?_)); (with_reducible conv => whnf); (with_reducible conv => congr <;> reduce))))
      | (with_reducible refine IfK.ff ?_; ((with_reducible conv => whnf); (with_reducible conv => congr <;> reduce); repeat ((first | (with_reducible refine HaltK.mk ?_) | (with_reducible refine StopK.mk ?_)); (with_reducible conv => whnf); (with_reducible conv => congr <;> reduce))))
      | (refine IfK.mk (fun _ => ?_) (fun _ => ?_) <;> ((with_reducible conv => whnf); (with_reducible conv => congr <;> reduce); repeat ((first | (with_reducible refine HaltK.mk ?_) | (with_reducible refine StopK.mk ?_)); (with_reducible conv => whnf); (with_reducible conv => congr <;> reduce)))))
    | ((with_reducible show NeedK _ _ _ _); refine NeedK.mk (by (try simp only [castN]); omega) ?_; ((with_reducible conv => whnf); (with_reducible conv => congr <;> reduce); repeat ((first | (with_reducible refine HaltK.mk ?_) | (with_reducible refine StopK.mk ?_)); (with_reducible conv => whnf); (with_reducible conv => congr <;> reduce))))
    | ((with_reducible show NextK _ _); refine NextK.mk (k + 1) ⟨by omega, next ?_⟩ (by omega) ⟨⟨rfl, rfl⟩, ⟨rfl, by show ((k + 1 : Nat) : Int) = (k : Int) + 1; omega, trivial⟩, trivial⟩)
    | ((with_reducible show (_ ∧ _) ∧ _ ∧ _); refine ⟨⟨rfl, rfl⟩, ?_, ?_⟩ <;> (with_reducible conv => whnf) <;> repeat' (first | (with_reducible exact trivial) | (with_reducible refine And.intro ?_ ?_ <;> with_reducible conv => whnf))))
        all_goals first
          | exact no hok'
          | exact hok'
          | trace_state
      · have e0 : decide (97 ≤ c) = false := decide_eq_false (by omega)
        have e1 : decide (c ≤ 122) = true := decide_eq_true (by omega)
        have e2 : decide (65 ≤ c) = false := decide_eq_false (by omega)
        have e3 : decide (c ≤ 90) = true := decide_eq_true (by omega)
        have e4 : decide (48 ≤ c) = true := decide_eq_true (by omega)
        have e5 : decide (c ≤ 57) = true := decide_eq_true (by omega)
        have e6 : decide (c = 45) = false := decide_eq_false (by omega)
        have e7 : decide (c = 46) = false := decide_eq_false (by omega)
        have e8 : decide (c = 95) = false := decide_eq_false (by omega)
        have e9 : (!decide (c = 95)) = true := by rw [e8]; rfl
        have f5 : (!decide (c ≤ 57)) = !(decide (c ≤ 57)) := rfl
        rw [e5] at f5
        have f6 : (!decide (c = 45)) = !(decide (c = 45)) := rfl
        rw [e6] at f6
        have f7 : (!decide (c = 46)) = !(decide (c = 46)) := rfl
        rw [e7] at f7
        simp only [Bool.not_true, Bool.not_false] at f5
        simp only [Bool.not_true, Bool.not_false] at f6
        simp only [Bool.not_true, Bool.not_false] at f7
        simp only [e0, e1, e2, e3, e4, e5, e6, e7, e8, Bool.and_true, Bool.true_and, Bool.and_false, Bool.false_and, Bool.or_true, Bool.true_or, Bool.or_false, Bool.false_or] at hok'
        cases K0
        all_goals (try simp only [Bool.not_true, Bool.not_false] at hok')
        repeat' (first
    | ((with_reducible show IfK _ _ _ _); first
      | (refine IfK.yes (by assumption) ?_; ((with_reducible conv => whnf); (with_reducible conv => congr <;> reduce); repeat ((first | (with_reducible refine HaltK.mk ?_) | (with_reducible refine StopK.mk ?_)); (with_reducible conv => whnf); (with_reducible conv => congr <;> reduce))))
      | (refine IfK.no (by assumption) ?_; ((with_reducible conv => whnf); (with_reducible conv => congr <;> reduce); repeat ((first | (with_reducible refine HaltK.mk ?_) | (with_reducible refine StopK.mk ?_)); (with_reducible conv => whnf); (with_reducible conv => congr <;> reduce))))
      | (with_reducible refine IfK.yes Bool.not_false ?_; ((with_reducible conv => whnf); (with_reducible conv => congr <;> reduce); repeat ((first | (with_reducible refine HaltK.mk ?_) | (with_reducible refine StopK.mk ?_)); (with_reducible conv => whnf); (with_reducible conv => congr <;> reduce))))
      | (with_reducible refine IfK.no Bool.not_true ?_; ((with_reducible conv => whnf); (with_reducible conv => congr <;> reduce); repeat ((first | (with_reducible refine HaltK.mk ?_) | (with_reducible refine StopK.mk ?_)); (with_reducible conv => whnf); (with_reducible conv => congr <;> reduce))))
      | (with_reducible refine IfK.yes (nf (by assumption)) ?_; ((with_reducible conv => whnf); (with_reducible conv => congr <;> reduce); repeat ((first | (with_reducible refine HaltK.mk ?_) | (with_reducible refine StopK.mk ?_)); (with_reducible conv => whnf); (with_reducible conv => congr <;> reduce))))
      | (with_reducible refine IfK.no (nt (by assumption)) ?_; ((with_reducible conv => whnf); (with_reducible conv => congr <;> reduce); repeat ((first | (with_reducible refine HaltK.mk ?_) | (with_reducible refine StopK.mk ?_)); (with_reducible conv => whnf); (with_reducible conv => congr <;> reduce))))
      | (with_reducible refine IfK.tt ?_; ((with_reducible conv => whnf); (with_reducible conv => congr <;> reduce); repeat ((first | (with_reducible refine HaltK.mk ?_) | (with_reducible refine StopK.mk ?_)); (with_reducible conv => whnf); (with_reducible conv => congr <;> reduce))))
      | (with_reducible refine IfK.ff ?_; ((with_reducible conv => whnf); (with_reducible conv => congr <;> reduce); repeat ((first | (with_reducible refine HaltK.mk ?_) | (with_reducible refine StopK.mk ?_)); (with_reducible conv => whnf); (with_reducible conv => congr <;> reduce))))
      | (refine IfK.mk (fun _ => ?_) (fun _ => ?_) <;> ((with_reducible conv => whnf); (with_reducible conv => congr <;> reduce); repeat ((first | (with_reducible refine HaltK.mk ?_) | (with_reducible refine StopK.mk ?_)); (with_reducible conv => whnf); (with_reducible conv => congr <;> reduce)))))
    | ((with_reducible show NeedK _ _ _ _); refine NeedK.mk (by (try simp only [castN]); omega) ?_; ((with_reducible conv => whnf); (with_reducible conv => congr <;> reduce); repeat ((first | (with_reducible refine HaltK.mk ?_) | (with_reducible refine StopK.mk ?_)); (with_reducible conv => whnf); (with_reducible conv => congr <;> reduce))))
    | ((with_reducible show NextK _ _); refine NextK.mk (k + 1) ⟨by omega, next ?_⟩ (by omega) ⟨⟨rfl, rfl⟩, ⟨rfl, by show ((k + 1 : Nat) : Int) = (k : Int) + 1; omega, trivial⟩, trivial⟩)
    | ((with_reducible show (_ ∧ _) ∧ _ ∧ _); refine ⟨⟨rfl, rfl⟩, ?_, ?_⟩ <;> (with_reducible conv => whnf) <;> repeat' (first | (with_reducible exact trivial) | (with_reducible refine And.intro ?_ ?_ <;> with_reducible conv => whnf))))
        all_goals first
          | exact no hok'
          | exact hok'
          | trace_state
      · have e0 : decide (97 ≤ c) = false := decide_eq_false (by omega)
        have e1 : decide (c ≤ 122) = true := decide_eq_true (by omega)
        have e2 : decide (65 ≤ c) = false := decide_eq_false (by omega)
        have e3 : decide (c ≤ 90) = true := decide_eq_true (by omega)
        have e4 : decide (48 ≤ c) = true := decide_eq_true (by omega)
        have e5 : decide (c ≤ 57) = false := decide_eq_false (by omega)
        have e6 : decide (c = 45) = false := decide_eq_false (by omega)
        have e7 : decide (c = 46) = false := decide_eq_false (by omega)
        have e8 : decide (c = 95) = false := decide_eq_false (by omega)
        have e9 : (!decide (c = 95)) = true := by rw [e8]; rfl
        have f5 : (!decide (c ≤ 57)) = !(decide (c ≤ 57)) := rfl
        rw [e5] at f5
        have f6 : (!decide (c = 45)) = !(decide (c = 45)) := rfl
        rw [e6] at f6
        have f7 : (!decide (c = 46)) = !(decide (c = 46)) := rfl
        rw [e7] at f7
        simp only [Bool.not_true, Bool.not_false] at f5
        simp only [Bool.not_true, Bool.not_false] at f6
        simp only [Bool.not_true, Bool.not_false] at f7
        simp only [e0, e1, e2, e3, e4, e5, e6, e7, e8, Bool.and_true, Bool.true_and, Bool.and_false, Bool.false_and, Bool.or_true, Bool.true_or, Bool.or_false, Bool.false_or] at hok'
        cases K0
        all_goals (try simp only [Bool.not_true, Bool.not_false] at hok')
        repeat' (first
    | ((with_reducible show IfK _ _ _ _); first
      | (refine IfK.yes (by assumption) ?_; ((with_reducible conv => whnf); (with_reducible conv => congr <;> reduce); repeat ((first | (with_reducible refine HaltK.mk ?_) | (with_reducible refine StopK.mk ?_)); (with_reducible conv => whnf); (with_reducible conv => congr <;> reduce))))
      | (refine IfK.no (by assumption) ?_; ((with_reducible conv => whnf); (with_reducible conv => congr <;> reduce); repeat ((first | (with_reducible refine HaltK.mk ?_) | (with_reducible refine StopK.mk ?_)); (with_reducible conv => whnf); (with_reducible conv => congr <;> reduce))))
      | (with_reducible refine IfK.yes Bool.not_false ?_; ((with_reducible conv => whnf); (with_reducible conv => congr <;> reduce); repeat ((first | (with_reducible refine HaltK.mk ?_) | (with_reducible refine StopK.mk ?_)); (with_reducible conv => whnf); (with_reducible conv => congr <;> reduce))))
      | (with_reducible refine IfK.no Bool.not_true ?_; ((with_reducible conv => whnf); (with_reducible conv => congr <;> reduce); repeat ((first | (with_reducible refine HaltK.mk ?_) | (with_reducible refine StopK.mk ?_)); (with_reducible conv => whnf); (with_reducible conv => congr <;> reduce))))
      | (with_reducible refine IfK.yes (nf (by assumption)) ?_; ((with_reducible conv => whnf); (with_reducible conv => congr <;> reduce); repeat ((first | (with_reducible refine HaltK.mk ?_) | (with_reducible refine StopK.mk ?_)); (with_reducible conv => whnf); (with_reducible conv => congr <;> reduce))))
      | (with_reducible refine IfK.no (nt (by assumption)) ?_; ((with_reducible conv => whnf); (with_reducible conv => congr <;> reduce); repeat ((first | (with_reducible refine HaltK.mk ?_) | (with_reducible refine StopK.mk ?_)); (with_reducible conv => whnf); (with_reducible conv => congr <;> reduce))))
      | (with_reducible refine IfK.tt ?_; ((with_reducible conv => whnf); (with_reducible conv => congr <;> reduce); repeat ((first | (with_reducible refine HaltK.mk ?_) | (with_reducible refine StopK.mk ?_)); (with_reducible conv => whnf); (with_reducible conv => congr <;> reduce))))
      | (with_reducible refine IfK.ff ?_; ((with_reducible conv => whnf); (with_reducible conv => congr <;> reduce); repeat ((first | (with_reducible refine HaltK.mk ?_) | (with_reducible refine StopK.mk ?_)); (with_reducible conv => whnf); (with_reducible conv => congr <;> reduce))))
      | (refine IfK.mk (fun _ => ?_) (fun _ => ?_) <;> ((with_reducible conv => whnf); (with_reducible conv => congr <;> reduce); repeat ((first | (with_reducible refine HaltK.mk ?_) | (with_reducible refine StopK.mk ?_)); (with_reducible conv => whnf); (with_reducible conv => congr <;> reduce)))))
    | ((with_reducible show NeedK _ _ _ _); refine NeedK.mk (by (try simp only [castN]); omega) ?_; ((with_reducible conv => whnf); (with_reducible conv => congr <;> reduce); repeat ((first | (with_reducible refine HaltK.mk ?_) | (with_reducible refine StopK.mk ?_)); (with_reducible conv => whnf); (with_reducible conv => congr <;> reduce))))
    | ((with_reducible show NextK _ _); refine NextK.mk (k + 1) ⟨by omega, next ?_⟩ (by omega) ⟨⟨rfl, rfl⟩, ⟨rfl, by show ((k + 1 : Nat) : Int) = (k : Int) + 1; omega, trivial⟩, trivial⟩)
    | ((with_reducible show (_ ∧ _) ∧ _ ∧ _); refine ⟨⟨rfl, rfl⟩, ?_, ?_⟩ <;> (with_reducible conv => whnf) <;> repeat' (first | (with_reducible exact trivial) | (with_reducible refine And.intro ?_ ?_ <;> with_reducible conv => whnf))))
        all_goals first
          | exact no hok'
          | exact hok'
          | trace_state
      · have e0 : decide (97 ≤ c) = false := decide_eq_false (by omega)
        have e1 : decide (c ≤ 122) = true := decide_eq_true (by omega)
        have e2 : decide (65 ≤ c) = true := decide_eq_true (by omega)
        have e3 : decide (c ≤ 90) = true := decide_eq_true (by omega)
        have e4 : decide (48 ≤ c) = true := decide_eq_true (by omega)
        have e5 : decide (c ≤ 57) = false := decide_eq_false (by omega)
        have e6 : decide (c = 45) = false := decide_eq_false (by omega)
        have e7 : decide (c = 46) = false := decide_eq_false (by omega)
        have e8 : decide (c = 95) = false := decide_eq_false (by omega)
        have e9 : (!decide (c = 95)) = true := by rw [e8]; rfl
        have f5 : (!decide (c ≤ 57)) = !(decide (c ≤ 57)) := rfl
        rw [e5] at f5
        have f6 : (!decide (c = 45)) = !(decide (c = 45)) := rfl
        rw [e6] at f6
        have f7 : (!decide (c = 46)) = !(decide (c = 46)) := rfl
        rw [e7] at f7
        simp only [Bool.not_true, Bool.not_false] at f5
        simp only [Bool.not_true, Bool.not_false] at f6
        simp only [Bool.not_true, Bool.not_false] at f7
        simp only [e0, e1, e2, e3, e4, e5, e6, e7, e8, Bool.and_true, Bool.true_and, Bool.and_false, Bool.false_and, Bool.or_true, Bool.true_or, Bool.or_false, Bool.false_or] at hok'
        cases K0
        all_goals (try simp only [Bool.not_true, Bool.not_false] at hok')
        repeat' (first
    | ((with_reducible show IfK _ _ _ _); first
      | (refine IfK.yes (by assumption) ?_; ((with_reducible conv => whnf); (with_reducible conv => congr <;> reduce); repeat ((first | (with_reducible refine HaltK.mk ?_) | (with_reducible refine StopK.mk ?_)); (with_reducible conv => whnf); (with_reducible conv => congr <;> reduce))))
      | (refine IfK.no (by assumption) ?_; ((with_reducible conv => whnf); (with_reducible conv => congr <;> reduce); repeat ((first | (with_reducible refine HaltK.mk ?_) | (with_reducible refine StopK.mk ?_)); (with_reducible conv => whnf); (with_reducible conv => congr <;> reduce))))
      | (with_reducible refine IfK.yes Bool.not_false ?_; ((with_reducible conv => whnf); (with_reducible conv => congr <;> reduce); repeat ((first | (with_reducible refine HaltK.mk ?_) | (with_reducible refine StopK.mk ?_)); (with_reducible conv => whnf); (with_reducible conv => congr <;> reduce))))
      | (with_reducible refine IfK.no Bool.not_true ?_; ((with_reducible conv => whnf); (with_reducible conv => congr <;> reduce); repeat ((first | (with_reducible refine HaltK.mk ?_) | (with_reducible refine StopK.mk ?_)); (with_reducible conv => whnf); (with_reducible conv => congr <;> reduce))))
      | (with_reducible refine IfK.yes (nf (by assumption)) ?_; ((with_reducible conv => whnf); (with_reducible conv => congr <;> reduce); repeat ((first | (with_reducible refine HaltK.mk ?_) | (with_reducible refine StopK.mk ?_)); (with_reducible conv => whnf); (with_reducible conv => congr <;> reduce))))
      | (with_reducible refine IfK.no (nt (by assumption)) ?_; ((with_reducible conv => whnf); (with_reducible conv => congr <;> reduce); repeat ((first | (with_reducible refine HaltK.mk ?_) | (with_reducible refine StopK.mk ?_)); (with_reducible conv => whnf); (with_reducible conv => congr <;> reduce))))
      | (with_reducible refine IfK.tt ?_; ((with_reducible conv => whnf); (with_reducible conv => congr <;> reduce); repeat ((first | (with_reducible refine HaltK.mk ?_) | (with_reducible refine StopK.mk ?_)); (with_reducible conv => whnf); (with_reducible conv => congr <;> reduce))))
      | (with_reducible refine IfK.ff ?_; ((with_reducible conv => whnf); (with_reducible conv => congr <;> reduce); repeat ((first | (with_reducible refine HaltK.mk ?_) | (with_reducible refine StopK.mk ?_)); (with_reducible conv => whnf); (with_reducible conv => congr <;> reduce))))
      | (refine IfK.mk (fun _ => ?_) (fun _ => ?_) <;> ((with_reducible conv => whnf); (with_reducible conv => congr <;> reduce); repeat ((first | (with_reducible refine HaltK.mk ?_) | (with_reducible refine StopK.mk ?_)); (with_reducible conv => whnf); (with_reducible conv => congr <;> reduce)))))
    | ((with_reducible show NeedK _ _ _ _); refine NeedK.mk (by (try simp only [castN]); omega) ?_; ((with_reducible conv => whnf); (with_reducible conv => congr <;> reduce); repeat ((first | (with_reducible refine HaltK.mk ?_) | (with_reducible refine StopK.mk ?_)); (with_reducible conv => whnf); (with_reducible conv => congr <;> reduce))))
    | ((with_reducible show NextK _ _); refine NextK.mk (k + 1) ⟨by omega, next ?_⟩ (by omega) ⟨⟨rfl, rfl⟩, ⟨rfl, by show ((k + 1 : Nat) : Int) = (k : Int) + 1; omega, trivial⟩, trivial⟩)
    | ((with_reducible show (_ ∧ _) ∧ _ ∧ _); refine ⟨⟨rfl, rfl⟩, ?_, ?_⟩ <;> (with_reducible conv => whnf) <;> repeat' (first | (with_reducible exact trivial) | (with_reducible refine And.intro ?_ ?_ <;> with_reducible conv => whnf))))
        all_goals first
          | exact no hok'
          | exact hok'
          | trace_state
      · have e0 : decide (97 ≤ c) = false := decide_eq_false (by omega)
        have e1 : decide (c ≤ 122) = true := decide_eq_true (by omega)
        have e2 : decide (65 ≤ c) = true := decide_eq_true (by omega)
        have e3 : decide (c ≤ 90) = false := decide_eq_false (by omega)
        have e4 : decide (48 ≤ c) = true := decide_eq_true (by omega)
        have e5 : decide (c ≤ 57) = false := decide_eq_false (by omega)
        have e6 : decide (c = 45) = false := decide_eq_false (by omega)
        have e7 : decide (c = 46) = false := decide_eq_false (by omega)
        have e8 : decide (c = 95) = false := decide_eq_false (by omega)
        have e9 : (!decide (c = 95)) = true := by rw [e8]; rfl
        have f5 : (!decide (c ≤ 57)) = !(decide (c ≤ 57)) := rfl
        rw [e5] at f5
        have f6 : (!decide (c = 45)) = !(decide (c = 45)) := rfl
        rw [e6] at f6
        have f7 : (!decide (c = 46)) = !(decide (c = 46)) := rfl
        rw [e7] at f7
        simp only [Bool.not_true, Bool.not_false] at f5
        simp only [Bool.not_true, Bool.not_false] at f6
        simp only [Bool.not_true, Bool.not_false] at f7
        simp only [e0, e1, e2, e3, e4, e5, e6, e7, e8, Bool.and_true, Bool.true_and, Bool.and_false, Bool.false_and, Bool.or_true, Bool.true_or, Bool.or_false, Bool.false_or] at hok'
        cases K0
        all_goals (try simp only [Bool.not_true, Bool.not_false] at hok')
        repeat' (first
    | ((with_reducible show IfK _ _ _ _); first
      | (refine IfK.yes (by assumption) ?_; ((with_reducible conv => whnf); (with_reducible conv => congr <;> reduce); repeat ((first | (with_reducible refine HaltK.mk ?_) | (with_reducible refine StopK.mk ?_)); (with_reducible conv => whnf); (with_reducible conv => congr <;> reduce))))
      | (refine IfK.no (by assumption) ?_; ((with_reducible conv => whnf); (with_reducible conv => congr <;> reduce); repeat ((first | (with_reducible refine HaltK.mk ?_) | (with_reducible refine StopK.mk ?_)); (with_reducible conv => whnf); (with_reducible conv => congr <;> reduce))))
      | (with_reducible refine IfK.yes Bool.not_false ?_; ((with_reducible conv => whnf); (with_reducible conv => congr <;> reduce); repeat ((first | (with_reducible refine HaltK.mk ?_) | (with_reducible refine StopK.mk ?_)); (with_reducible conv => whnf); (with_reducible conv => congr <;> reduce))))
      | (with_reducible refine IfK.no Bool.not_true ?_; ((with_reducible conv => whnf); (with_reducible conv => congr <;> reduce); repeat ((first | (with_reducible refine HaltK.mk ?_) | (with_reducible refine StopK.mk ?_)); (with_reducible conv => whnf); (with_reducible conv => congr <;> reduce))))
      | (with_reducible refine IfK.yes (nf (by assumption)) ?_; ((with_reducible conv => whnf); (with_reducible conv => congr <;> reduce); repeat ((first | (with_reducible refine HaltK.mk ?_) | (with_reducible refine StopK.mk ?_)); (with_reducible conv => whnf); (with_reducible conv => congr <;> reduce))))
      | (with_reducible refine IfK.no (nt (by assumption)) ?_; ((with_reducible conv => whnf); (with_reducible conv => congr <;> reduce); repeat ((first | (with_reducible refine HaltK.mk ?_) | (with_reducible refine StopK.mk ?_)); (with_reducible conv => whnf); (with_reducible conv => congr <;> reduce))))
      | (with_reducible refine IfK.tt ?_; ((with_reducible conv => whnf); (with_reducible conv => congr <;> reduce); repeat ((first | (with_reducible refine HaltK.mk ?_) | (with_reducible refine StopK.mk ?_)); (with_reducible conv => whnf); (with_reducible conv => congr <;> reduce))))
      | (with_reducible refine IfK.ff ?_; ((with_reducible conv => whnf); (with_reducible conv => congr <;> reduce); repeat ((first | (with_reducible refine HaltK.mk ?_) | (with_reducible refine StopK.mk ?_)); (with_reducible conv => whnf); (with_reducible conv => congr <;> reduce))))
      | (refine IfK.mk (fun _ => ?_) (fun _ => ?_) <;> ((with_reducible conv => whnf); (with_reducible conv => congr <;> reduce); repeat ((first | (with_reducible refine HaltK.mk ?_) | (with_reducible refine StopK.mk ?_)); (with_reducible conv => whnf); (with_reducible conv => congr <;> reduce)))))
    | ((with_reducible show NeedK _ _ _ _); refine NeedK.mk (by (try simp only [castN]); omega) ?_; ((with_reducible conv => whnf); (with_reducible conv => congr <;> reduce); repeat ((first | (with_reducible refine HaltK.mk ?_) | (with_reducible refine StopK.mk ?_)); (with_reducible conv => whnf); (with_reducible conv => congr <;> reduce))))
    | ((with_reducible show NextK _ _); refine NextK.mk (k + 1) ⟨by omega, next ?_⟩ (by omega) ⟨⟨rfl, rfl⟩, ⟨rfl, by show ((k + 1 : Nat) : Int) = (k : Int) + 1; omega, trivial⟩, trivial⟩)
    | ((with_reducible show (_ ∧ _) ∧ _ ∧ _); refine ⟨⟨rfl, rfl⟩, ?_, ?_⟩ <;> (with_reducible conv => whnf) <;> repeat' (first | (with_reducible exact trivial) | (with_reducible refine And.intro ?_ ?_ <;> with_reducible conv => whnf))))
        all_goals first
          | exact no hok'
          | exact hok'
          | trace_state
      · have e0 : decide (97 ≤ c) = false := decide_eq_false (by omega)
        have e1 : decide (c ≤ 122) = true := decide_eq_true (by omega)
        have e2 : decide (65 ≤ c) = true := decide_eq_true (by omega)
        have e3 : decide (c ≤ 90) = false := decide_eq_false (by omega)
        have e4 : decide (48 ≤ c) = true := decide_eq_true (by omega)
        have e5 : decide (c ≤ 57) = false := decide_eq_false (by omega)
        have e6 : decide (c = 45) = false := decide_eq_false (by omega)
        have e7 : decide (c = 46) = false := decide_eq_false (by omega)
        have e8 : decide (c = 95) = true := decide_eq_true (by omega)
        have e9 : (!decide (c = 95)) = false := by rw [e8]; rfl
        have f5 : (!decide (c ≤ 57)) = !(decide (c ≤ 57)) := rfl
        rw [e5] at f5
        have f6 : (!decide (c = 45)) = !(decide (c = 45)) := rfl
        rw [e6] at f6
        have f7 : (!decide (c = 46)) = !(decide (c = 46)) := rfl
        rw [e7] at f7
        simp only [Bool.not_true, Bool.not_false] at f5
        simp only [Bool.not_true, Bool.not_false] at f6
        simp only [Bool.not_true, Bool.not_false] at f7
        simp only [e0, e1, e2, e3, e4, e5, e6, e7, e8, Bool.and_true, Bool.true_and, Bool.and_false, Bool.false_and, Bool.or_true, Bool.true_or, Bool.or_false, Bool.false_or] at hok'
        cases K0
        all_goals (try simp only [Bool.not_true, Bool.not_false] at hok')
        repeat' (first
    | ((with_reducible show IfK _ _ _ _); first
      | (refine IfK.yes (by assumption) ?_; ((with_reducible conv => whnf); (with_reducible conv => congr <;> reduce); repeat ((first | (with_reducible refine HaltK.mk ?_) | (with_reducible refine StopK.mk ?_)); (with_reducible conv => whnf); (with_reducible conv => congr <;> reduce))))
      | (refine IfK.no (by assumption) ?_; ((with_reducible conv => whnf); (with_reducible conv => congr <;> reduce); repeat ((first | (with_reducible refine HaltK.mk ?_) | (with_reducible refine StopK.mk ?_)); (with_reducible conv => whnf); (with_reducible conv => congr <;> reduce))))
      | (with_reducible refine IfK.yes Bool.not_false ?_; ((with_reducible conv => whnf); (with_reducible conv => congr <;> reduce); repeat ((first | (with_reducible refine HaltK.mk ?_) | (with_reducible refine StopK.mk ?_)); (with_reducible conv => whnf); (with_reducible conv => congr <;> reduce))))
      | (with_reducible refine IfK.no Bool.not_true ?_; ((with_reducible conv => whnf); (with_reducible conv => congr <;> reduce); repeat ((first | (with_reducible refine HaltK.mk ?_) | (with_reducible refine StopK.mk ?_)); (with_reducible conv => whnf); (with_reducible conv => congr <;> reduce))))
      | (with_reducible refine IfK.yes (nf (by assumption)) ?_; ((with_reducible conv => whnf); (with_reducible conv => congr <;> reduce); repeat ((first | (with_reducible refine HaltK.mk ?_) | (with_reducible refine StopK.mk ?_)); (with_reducible conv => whnf); (with_reducible conv => congr <;> reduce))))
      | (with_reducible refine IfK.no (nt (by assumption)) ?_; ((with_reducible conv => whnf); (with_reducible conv => congr <;> reduce); repeat ((first | (with_reducible refine HaltK.mk ?_) | (with_reducible refine StopK.mk ?_)); (with_reducible conv => whnf); (with_reducible conv => congr <;> reduce))))
      | (with_reducible refine IfK.tt ?_; ((with_reducible conv => whnf); (with_reducible conv => congr <;> reduce); repeat ((first | (with_reducible refine HaltK.mk ?_) | (with_reducible refine StopK.mk ?_)); (with_reducible conv => whnf); (with_reducible conv => congr <;> reduce))))
      | (with_reducible refine IfK.ff ?_; ((with_reducible conv => whnf); (with_reducible conv => congr <;> reduce); repeat ((first | (with_reducible refine HaltK.mk ?_) | (with_reducible refine StopK.mk ?_)); (with_reducible conv => whnf); (with_reducible conv => congr <;> reduce))))
      | (refine IfK.mk (fun _ => ?_) (fun _ => ?_) <;> ((with_reducible conv => whnf); (with_reducible conv => congr <;> reduce); repeat ((first | (with_reducible refine HaltK.mk ?_) | (with_reducible refine StopK.mk ?_)); (with_reducible conv => whnf); (with_reducible conv => congr <;> reduce)))))
    | ((with_reducible show NeedK _ _ _ _); refine NeedK.mk (by (try simp only [castN]); omega) ?_; ((with_reducible conv => whnf); (with_reducible conv => congr <;> reduce); repeat ((first | (with_reducible refine HaltK.mk ?_) | (with_reducible refine StopK.mk ?_)); (with_reducible conv => whnf); (with_reducible conv => congr <;> reduce))))
    | ((with_reducible show NextK _ _); refine NextK.mk (k + 1) ⟨by omega, next ?_⟩ (by omega) ⟨⟨rfl, rfl⟩, ⟨rfl, by show ((k + 1 : Nat) : Int) = (k : Int) + 1; omega, trivial⟩, trivial⟩)
    | ((with_reducible show (_ ∧ _) ∧ _ ∧ _); refine ⟨⟨rfl, rfl⟩, ?_, ?_⟩ <;> (with_reducible conv => whnf) <;> repeat' (first | (with_reducible exact trivial) | (with_reducible refine And.intro ?_ ?_ <;> with_reducible conv => whnf))))
        all_goals first
          | exact no hok'
          | exact hok'
          | trace_state
      · have e0 : decide (97 ≤ c) = false := decide_eq_false (by omega)
        have e1 : decide (c ≤ 122) = true := decide_eq_true (by omega)
        have e2 : decide (65 ≤ c) = true := decide_eq_true (by omega)
        have e3 : decide (c ≤ 90) = false := decide_eq_false (by omega)
        have e4 : decide (48 ≤ c) = true := decide_eq_true (by omega)
        have e5 : decide (c ≤ 57) = false := decide_eq_false (by omega)
        have e6 : decide (c = 45) = false := decide_eq_false (by omega)
        have e7 : decide (c = 46) = false := decide_eq_false (by omega)
        have e8 : decide (c = 95) = false := decide_eq_false (by omega)
        have e9 : (!decide (c = 95)) = true := by rw [e8]; rfl
        have f5 : (!decide (c ≤ 57)) = !(decide (c ≤ 57)) := rfl
        rw [e5] at f5
        have f6 : (!decide (c = 45)) = !(decide (c = 45)) := rfl
        rw [e6] at f6
        have f7 : (!decide (c = 46)) = !(decide (c = 46)) := rfl
        rw [e7] at f7
        simp only [Bool.not_true, Bool.not_false] at f5
        simp only [Bool.not_true, Bool.not_false] at f6
        simp only [Bool.not_true, Bool.not_false] at f7
        simp only [e0, e1, e2, e3, e4, e5, e6, e7, e8, Bool.and_true, Bool.true_and, Bool.and_false, Bool.false_and, Bool.or_true, Bool.true_or, Bool.or_false, Bool.false_or] at hok'
        cases K0
        all_goals (try simp only [Bool.not_true, Bool.not_false] at hok')
        repeat' (first
    | ((with_reducible show IfK _ _ _ _); first
      | (refine IfK.yes (by assumption) ?_; ((with_reducible conv => whnf); (with_reducible conv => congr <;> reduce); repeat ((first | (with_reducible refine HaltK.mk ?_) | (with_reducible refine StopK.mk ?_)); (with_reducible conv => whnf); (with_reducible conv => congr <;> reduce))))
      | (refine IfK.no (by assumption) ?_; ((with_reducible conv => whnf); (with_reducible conv => congr <;> reduce); repeat ((first | (with_reducible refine HaltK.mk ?_) | (with_reducible refine StopK.mk ?_)); (with_reducible conv => whnf); (with_reducible conv => congr <;> reduce))))
      | (with_reducible refine IfK.yes Bool.not_false ?_; ((with_reducible conv => whnf); (with_reducible conv => congr <;> reduce); repeat ((first | (with_reducible refine HaltK.mk ?_) | (with_reducible refine StopK.mk ?_)); (with_reducible conv => whnf); (with_reducible conv => congr <;> reduce))))
      | (with_reducible refine IfK.no Bool.not_true ?_; ((with_reducible conv => whnf); (with_reducible conv => congr <;> reduce); repeat ((first | (with_reducible refine HaltK.mk ?_) | (with_reducible refine StopK.mk ?_)); (with_reducible conv => whnf); (with_reducible conv => congr <;> reduce))))
      | (with_reducible refine IfK.yes (nf (by assumption)) ?_; ((with_reducible conv => whnf); (with_reducible conv => congr <;> reduce); repeat ((first | (with_reducible refine HaltK.mk ?_) | (with_reducible refine StopK.mk ?_)); (with_reducible conv => whnf); (with_reducible conv => congr <;> reduce))))
      | (with_reducible refine IfK.no (nt (by assumption)) ?_; ((with_reducible conv => whnf); (with_reducible conv => congr <;> reduce); repeat ((first | (with_reducible refine HaltK.mk ?_) | (with_reducible refine StopK.mk ?_)); (with_reducible conv => whnf); (with_reducible conv => congr <;> reduce))))
      | (with_reducible refine IfK.tt ?_; ((with_reducible conv => whnf); (with_reducible conv => congr <;> reduce); repeat ((first | (with_reducible refine HaltK.mk ?_) | (with_reducible refine StopK.mk ?_)); (with_reducible conv => whnf); (with_reducible conv => congr <;> reduce))))
      | (with_reducible refine IfK.ff ?_; ((with_reducible conv => whnf); (with_reducible conv => congr <;> reduce); repeat ((first | (with_reducible refine HaltK.mk ?_) | (with_reducible refine StopK.mk ?_)); (with_reducible conv => whnf); (with_reducible conv => congr <;> reduce))))
      | (refine IfK.mk (fun _ => ?_) (fun _ => ?_) <;> ((with_reducible conv => whnf); (with_reducible conv => congr <;> reduce); repeat ((first | (with_reducible refine HaltK.mk ?_) | (with_reducible refine StopK.mk ?_)); (with_reducible conv => whnf); (with_reducible conv => congr <;> reduce)))))
    | ((with_reducible show NeedK _ _ _ _); refine NeedK.mk (by (try simp only [castN]); omega) ?_; ((with_reducible conv => whnf); (with_reducible conv => congr <;> reduce); repeat ((first | (with_reducible refine HaltK.mk ?_) | (with_reducible refine StopK.mk ?_)); (with_reducible conv => whnf); (with_reducible conv => congr <;> reduce))))
    | ((with_reducible show NextK _ _); refine NextK.mk (k + 1) ⟨by omega, next ?_⟩ (by omega) ⟨⟨rfl, rfl⟩, ⟨rfl, by show ((k + 1 : Nat) : Int) = (k : Int) + 1; omega, trivial⟩, trivial⟩)
    | ((with_reducible show (_ ∧ _) ∧ _ ∧ _); refine ⟨⟨rfl, rfl⟩, ?_, ?_⟩ <;> (with_reducible conv => whnf) <;> repeat' (first | (with_reducible exact trivial) | (with_reducible refine And.intro ?_ ?_ <;> with_reducible conv => whnf))))
        all_goals first
          | exact no hok'
          | exact hok'
          | trace_state
      · have e0 : decide (97 ≤ c) = true := decide_eq_true (by omega)
        have e1 : decide (c ≤ 122) = true := decide_eq_true (by omega)
        have e2 : decide (65 ≤ c) = true := decide_eq_true (by omega)
        have e3 : decide (c ≤ 90) = false := decide_eq_false (by omega)
        have e4 : decide (48 ≤ c) = true := decide_eq_true (by omega)
        have e5 : decide (c ≤ 57) = false := decide_eq_false (by omega)
        have e6 : decide (c = 45) = false := decide_eq_false (by omega)
        have e7 : decide (c = 46) = false := decide_eq_false (by omega)
        have e8 : decide (c = 95) = false := decide_eq_false (by omega)
        have e9 : (!decide (c = 95)) = true := by rw [e8]; rfl
        have f5 : (!decide (c ≤ 57)) = !(decide (c ≤ 57)) := rfl
        rw [e5] at f5
        have f6 : (!decide (c = 45)) = !(decide (c = 45)) := rfl
        rw [e6] at f6
        have f7 : (!decide (c = 46)) = !(decide (c = 46)) := rfl
        rw [e7] at f7
        simp only [Bool.not_true, Bool.not_false] at f5
        simp only [Bool.not_true, Bool.not_false] at f6
        simp only [Bool.not_true, Bool.not_false] at f7
        simp only [e0, e1, e2, e3, e4, e5, e6, e7, e8, Bool.and_true, Bool.true_and, Bool.and_false, Bool.false_and, Bool.or_true, Bool.true_or, Bool.or_false, Bool.false_or] at hok'
        cases K0
        all_goals (try simp only [Bool.not_true, Bool.not_false] at hok')
        repeat' (first
    | ((with_reducible show IfK _ _ _ _); first
      | (refine IfK.yes (by assumption) ?_; ((with_reducible conv => whnf); (with_reducible conv => congr <;> reduce); repeat ((first | (with_reducible refine HaltK.mk ?_) | (with_reducible refine StopK.mk ?_)); (with_reducible conv => whnf); (with_reducible conv => congr <;> reduce))))
      | (refine IfK.no (by assumption) ?_; ((with_reducible conv => whnf); (with_reducible conv => congr <;> reduce); repeat ((first | (with_reducible refine HaltK.mk ?_) | (with_reducible refine StopK.mk ?_)); (with_reducible conv => whnf); (with_reducible conv => congr <;> reduce))))
      | (with_reducible refine IfK.yes Bool.not_false ?_; ((with_reducible conv => whnf); (with_reducible conv => congr <;> reduce); repeat ((first | (with_reducible refine HaltK.mk ?_) | (with_reducible refine StopK.mk ?_)); (with_reducible conv => whnf); (with_reducible conv => congr <;> reduce))))
      | (with_reducible refine IfK.no Bool.not_true ?_; ((with_reducible conv => whnf); (with_reducible conv => congr <;> reduce); repeat ((first | (with_reducible refine HaltK.mk ?_) | (with_reducible refine StopK.mk ?_)); (with_reducible conv => whnf); (with_reducible conv => congr <;> reduce))))
      | (with_reducible refine IfK.yes (nf (by assumption)) ?_; ((with_reducible conv => whnf); (with_reducible conv => congr <;> reduce); repeat ((first | (with_reducible refine HaltK.mk ?_) | (with_reducible refine StopK.mk ?_)); (with_reducible conv => whnf); (with_reducible conv => congr <;> reduce))))
      | (with_reducible refine IfK.no (nt (by assumption)) ?_; ((with_reducible conv => whnf); (with_reducible conv => congr <;> reduce); repeat ((first | (with_reducible refine HaltK.mk ?_) | (with_reducible refine StopK.mk ?_)); (with_reducible conv => whnf); (with_reducible conv => congr <;> reduce))))
      | (with_reducible refine IfK.tt ?_; ((with_reducible conv => whnf); (with_reducible conv => congr <;> reduce); repeat ((first | (with_reducible refine HaltK.mk ?_) | (with_reducible refine StopK.mk ?_)); (with_reducible conv => whnf); (with_reducible conv => congr <;> reduce))))
      | (with_reducible refine IfK.ff ?_; ((with_reducible conv => whnf); (with_reducible conv => congr <;> reduce); repeat ((first | (with_reducible refine HaltK.mk ?_) | (with_reducible refine StopK.mk ?_)); (with_reducible conv => whnf); (with_reducible conv => congr <;> reduce))))
      | (refine IfK.mk (fun _ => ?_) (fun _ => ?_) <;> ((with_reducible conv => whnf); (with_reducible conv => congr <;> reduce); repeat ((first | (with_reducible refine HaltK.mk ?_) | (with_reducible refine StopK.mk ?_)); (with_reducible conv => whnf); (with_reducible conv => congr <;> reduce)))))
    | ((with_reducible show NeedK _ _ _ _); refine NeedK.mk (by (try simp only [castN]); omega) ?_; ((with_reducible conv => whnf); (with_reducible conv => congr <;> reduce); repeat ((first | (with_reducible refine HaltK.mk ?_) | (with_reducible refine StopK.mk ?_)); (with_reducible conv => whnf); (with_reducible conv => congr <;> reduce))))
    | ((with_reducible show NextK _ _); refine NextK.mk (k + 1) ⟨by omega, next ?_⟩ (by omega) ⟨⟨rfl, rfl⟩, ⟨rfl, by show ((k + 1 : Nat) : Int) = (k : Int) + 1; omega, trivial⟩, trivial⟩)
    | ((with_reducible show (_ ∧ _) ∧ _ ∧ _); refine ⟨⟨rfl, rfl⟩, ?_, ?_⟩ <;> (with_reducible conv => whnf) <;> repeat' (first | (with_reducible exact trivial) | (with_reducible refine And.intro ?_ ?_ <;> with_reducible conv => whnf))))
        all_goals first
          | exact no hok'
          | exact hok'
          | trace_state
      · have e0 : decide (97 ≤ c) = true := decide_eq_true (by omega)
        have e1 : decide (c ≤ 122) = false := decide_eq_false (by omega)
        have e2 : decide (65 ≤ c) = true := decide_eq_true (by omega)
        have e3 : decide (c ≤ 90) = false := decide_eq_false (by omega)
        have e4 : decide (48 ≤ c) = true := decide_eq_true (by omega)
        have e5 : decide (c ≤ 57) = false := decide_eq_false (by omega)
        have e6 : decide (c = 45) = false := decide_eq_false (by omega)
        have e7 : decide (c = 46) = false := decide_eq_false (by omega)
        have e8 : decide (c = 95) = false := decide_eq_false (by omega)
        have e9 : (!decide (c = 95)) = true := by rw [e8]; rfl
        have f5 : (!decide (c ≤ 57)) = !(decide (c ≤ 57)) := rfl
        rw [e5] at f5
        have f6 : (!decide (c = 45)) = !(decide (c = 45)) := rfl
        rw [e6] at f6
        have f7 : (!decide (c = 46)) = !(decide (c = 46)) := rfl
        rw [e7] at f7
        simp only [Bool.not_true, Bool.not_false] at f5
        simp only [Bool.not_true, Bool.not_false] at f6
        simp only [Bool.not_true, Bool.not_false] at f7
        simp only [e0, e1, e2, e3, e4, e5, e6, e7, e8, Bool.and_true, Bool.true_and, Bool.and_false, Bool.false_and, Bool.or_true, Bool.true_or, Bool.or_false, Bool.false_or] at hok'
        cases K0
        all_goals (try simp only [Bool.not_true, Bool.not_false] at hok')
        repeat' (first
    | ((with_reducible show IfK _ _ _ _); first
      | (refine IfK.yes (by assumption) ?_; ((with_reducible conv => whnf); (with_reducible conv => congr <;> reduce); repeat ((first | (with_reducible refine HaltK.mk ?_) | (with_reducible refine StopK.mk ?_)); (with_reducible conv => whnf); (with_reducible conv => congr <;> reduce))))
      | (refine IfK.no (by assumption) ?_; ((with_reducible conv => whnf); (with_reducible conv => congr <;> reduce); repeat ((first | (with_reducible refine HaltK.mk ?_) | (with_reducible refine StopK.mk ?_)); (with_reducible conv => whnf); (with_reducible conv => congr <;> reduce))))
      | (with_reducible refine IfK.yes Bool.not_false ?_; ((with_reducible conv => whnf); (with_reducible conv => congr <;> reduce); repeat ((first | (with_reducible refine HaltK.mk ?_) | (with_reducible refine StopK.mk ?_)); (with_reducible conv => whnf); (with_reducible conv => congr <;> reduce))))
      | (with_reducible refine IfK.no Bool.not_true ?_; ((with_reducible conv => whnf); (with_reducible conv => congr <;> reduce); repeat ((first | (with_reducible refine HaltK.mk ?_) | (with_reducible refine StopK.mk ?_)); (with_reducible conv => whnf); (with_reducible conv => congr <;> reduce))))
      | (with_reducible refine IfK.yes (nf (by assumption)) ?_; ((with_reducible conv => whnf); (with_reducible conv => congr <;> reduce); repeat ((first | (with_reducible refine HaltK.mk ?_) | (with_reducible refine StopK.mk ?_)); (with_reducible conv => whnf); (with_reducible conv => congr <;> reduce))))
      | (with_reducible refine IfK.no (nt (by assumption)) ?_; ((with_reducible conv => whnf); (with_reducible conv => congr <;> reduce); repeat ((first | (with_reducible refine HaltK.mk ?_) | (with_reducible refine StopK.mk ?_)); (with_reducible conv => whnf); (with_reducible conv => congr <;> reduce))))
      | (with_reducible refine IfK.tt ?_; ((with_reducible conv => whnf); (with_reducible conv => congr <;> reduce); repeat ((first | (with_reducible refine HaltK.mk ?_) | (with_reducible refine StopK.mk ?_)); (with_reducible conv => whnf); (with_reducible conv => congr <;> reduce))))
      | (with_reducible refine IfK.ff ?_; ((with_reducible conv => whnf); (with_reducible conv => congr <;> reduce); repeat ((first | (with_reducible refine HaltK.mk ?_) | (with_reducible refine StopK.mk ?_)); (with_reducible conv => whnf); (with_reducible conv => congr <;> reduce))))
      | (refine IfK.mk (fun _ => ?_) (fun _ => ?_) <;> ((with_reducible conv => whnf); (with_reducible conv => congr <;> reduce); repeat ((first | (with_reducible refine HaltK.mk ?_) | (with_reducible refine StopK.mk ?_)); (with_reducible conv => whnf); (with_reducible conv => congr <;> reduce)))))
    | ((with_reducible show NeedK _ _ _ _); refine NeedK.mk (by (try simp only [castN]); omega) ?_; ((with_reducible conv => whnf); (with_reducible conv => congr <;> reduce); repeat ((first | (with_reducible refine HaltK.mk ?_) | (with_reducible refine StopK.mk ?_)); (with_reducible conv => whnf); (with_reducible conv => congr <;> reduce))))
    | ((with_reducible show NextK _ _); refine NextK.mk (k + 1) ⟨by omega, next ?_⟩ (by omega) ⟨⟨rfl, rfl⟩, ⟨rfl, by show ((k + 1 : Nat) : Int) = (k : Int) + 1; omega, trivial⟩, trivial⟩)
    | ((with_reducible show (_ ∧ _) ∧ _ ∧ _); refine ⟨⟨rfl, rfl⟩, ?_, ?_⟩ <;> (with_reducible conv => whnf) <;> repeat' (first | (with_reducible exact trivial) | (with_reducible refine And.intro ?_ ?_ <;> with_reducible conv => whnf))))
        all_goals first
          | exact no hok'
          | exact hok'
          | trace_state
    · refine ⟨⟨rfl, rfl⟩, ?_, ?_⟩ <;> (with_reducible conv => whnf) <;> repeat' (first | (with_reducible exact trivial) | (with_reducible refine And.intro ?_ ?_ <;> with_reducible conv => whnf))
      exact hr.2 fun i b hb => hok i b (by have := (List.getElem?_eq_some_iff.1 hb).1; simp only [decide_eq_false_iff_not] at h1; have := size_len s; omega) hb
end Go.Proofs.Able
end
section
set_option linter.unusedSimpArgs false
set_option linter.unusedVariables false
namespace Go.Proofs.Able
open Go.Am Go.RowKit Go.Lib
set_option maxRecDepth 100000
theorem f36_ok (l : List AttrM) (hl : l.length ≤ 100000) (n : ByteArray) : FnOK Try.prog 36 [] [eAttrs l, eStr n] [] (eInt (posA l n)) := by
  have hlm : (l.map oAttr).length = l.length := List.length_map ..
  refine FnOK.startC (rvs := [.tmp 4]) G G_good Try.func36 rfl Try.ntmps36 rfl rfl ?_; delta List.toArray; ((with_reducible conv => whnf); (with_reducible conv => congr <;> reduce); repeat ((first | (with_reducible refine HaltK.mk ?_) | (with_reducible refine StopK.mk ?_)); (with_reducible conv => whnf); (with_reducible conv => congr <;> reduce)))
  refine LoopK.use G G_good (fun (k : Nat) => [(0, eAttrs l), (1, eStr n), (5, eInt k)]) (fun _ => []) (fun k => k ≤ l.length ∧ ∀ j x, j < k → l[j]? = some x → hasName n x = false) (fun k => l.length - k) 0 ⟨Nat.zero_le _, fun j x h => by omega⟩
    ⟨⟨rfl, rfl⟩, ⟨rfl, rfl, rfl, trivial⟩, trivial⟩ ?_
  rintro k ⟨hk, hno⟩
  ((with_reducible conv => whnf); (with_reducible conv => congr <;> reduce); repeat ((first | (with_reducible refine HaltK.mk ?_) | (with_reducible refine StopK.mk ?_)); (with_reducible conv => whnf); (with_reducible conv => congr <;> reduce)))
  refine IfK.mk (fun h1 => ?_) (fun h1 => ?_) <;> (try simp only [castN] at h1) <;> ((with_reducible conv => whnf); (with_reducible conv => congr <;> reduce); repeat ((first | (with_reducible refine HaltK.mk ?_) | (with_reducible refine StopK.mk ?_)); (with_reducible conv => whnf); (with_reducible conv => congr <;> reduce)))
  · simp only [decide_eq_true_eq] at h1
    have hk' : k < l.length := by omega
    obtain ⟨⟨an, av⟩, ha⟩ : ∃ a, l[k]? = some a := ⟨_, List.getElem?_eq_getElem hk'⟩
    refine IdxK.mk k (eAttr ⟨an, av⟩) rfl (attr_get ha) ?_; ((with_reducible conv => whnf); (with_reducible conv => congr <;> reduce); repeat ((first | (with_reducible refine HaltK.mk ?_) | (with_reducible refine StopK.mk ?_)); (with_reducible conv => whnf); (with_reducible conv => congr <;> reduce)))
    refine IfK.mk (fun h2 => ?_) (fun h2 => ?_) <;> (try simp only [castN] at h2) <;> ((with_reducible conv => whnf); (with_reducible conv => congr <;> reduce); repeat ((first | (with_reducible refine HaltK.mk ?_) | (with_reducible refine StopK.mk ?_)); (with_reducible conv => whnf); (with_reducible conv => congr <;> reduce)))
    · refine ⟨⟨rfl, rfl⟩, ?_, ?_⟩ <;> (with_reducible conv => whnf) <;> repeat' (first | (with_reducible exact trivial) | (with_reducible refine And.intro ?_ ?_ <;> with_reducible conv => whnf))
      exact idxI_hit (p := hasName n) ha h2 hno
    · refine NeedK.mk (by (try simp only [castN]); omega) ?_; ((with_reducible conv => whnf); (with_reducible conv => congr <;> reduce); repeat ((first | (with_reducible refine HaltK.mk ?_) | (with_reducible refine StopK.mk ?_)); (with_reducible conv => whnf); (with_reducible conv => congr <;> reduce)))
      refine NextK.mk (k + 1) ⟨by omega, fun j x hj hx => ?_⟩ (by omega) ⟨⟨rfl, rfl⟩, ⟨rfl, rfl, by show ((k + 1 : Nat) : Int) = (k : Int) + 1; omega, trivial⟩, trivial⟩
      rcases Nat.lt_or_ge j k with h6 | h6
      · exact hno j x h6 hx
      · have : j = k := by omega
        subst this
        rw [ha] at hx; cases hx; exact h2
  · refine ⟨⟨rfl, rfl⟩, ?_, ?_⟩ <;> (with_reducible conv => whnf) <;> repeat' (first | (with_reducible exact trivial) | (with_reducible refine And.intro ?_ ?_ <;> with_reducible conv => whnf))
    have : k = l.length := by simp only [decide_eq_false_iff_not] at h1; omega
    exact idxI_none fun j x hx => hno j x (by have := (List.getElem?_eq_some_iff.1 hx).1; omega) hx
def goodAt (l : List AttrM) (i : Nat) (a : AttrM) : Bool := okA a && decide (posA l a.name = (i : Int))
theorem nodup_pos (l : List AttrM) : (l.map AttrM.name).Nodup ↔ ∀ (i : Nat) (a : AttrM), l[i]? = some a → posA l a.name = (i : Int) := by
  constructor
  · intro hn i a ha
    refine idxI_hit ha (by simp [hasName]) fun j x hj hx => ?_
    simp only [hasName, decide_eq_false_iff_not]
    intro e
    have h1 : (l.map AttrM.name)[j]? = some x.name := by rw [List.getElem?_map, hx]; rfl
    have h2 : (l.map AttrM.name)[i]? = some a.name := by rw [List.getElem?_map, ha]; rfl
    have hjl := (List.getElem?_eq_some_iff.1 h1).1
    have := (List.getElem?_inj hjl hn (j := i)).1 (h1.trans ((congrArg some e).trans h2.symm))
    omega
  · intro h
    rw [List.nodup_iff_pairwise_ne, List.pairwise_iff_getElem]
    intro i j hi hj hij e
    rw [List.length_map] at hi hj
    have h1 := h i _ (List.getElem?_eq_getElem hi)
    have h2 := h j _ (List.getElem?_eq_getElem hj)
    rw [List.getElem_map, List.getElem_map] at e
    rw [e, h2] at h1
    omega
theorem rightA_iff (l : List AttrM) (h : l.length ≤ 40) : rightA l = true ↔ ∀ (i : Nat) (a : AttrM), l[i]? = some a → goodAt l i a = true := by
  unfold rightA goodAt
  rw [decide_eq_true h]
  simp only [Bool.true_and, Bool.and_eq_true, List.all_eq_true, decide_eq_true_eq]
  rw [nodup_pos]
  constructor
  · rintro ⟨h1, h2⟩ i a ha
    exact ⟨h1 a (List.mem_of_getElem? ha), h2 i a ha⟩
  · intro h
    refine ⟨fun a ha => ?_, fun i a ha => (h i a ha).2⟩
    obtain ⟨i, hi⟩ := List.getElem?_of_mem ha
    exact (h i a hi).1
theorem f33_ok (l : List AttrM) (hl : l.length ≤ 100000) : FnOK Try.prog 33 [] [eAttrs l] [] (eBool (rightA l)) := by
  have hlm : (l.map oAttr).length = l.length := List.length_map ..
  refine FnOK.startC (rvs := [.tmp 2]) G G_good Try.func33 rfl Try.ntmps33 rfl rfl ?_; delta List.toArray; ((with_reducible conv => whnf); (with_reducible conv => congr <;> reduce); repeat ((first | (with_reducible refine HaltK.mk ?_) | (with_reducible refine StopK.mk ?_)); (with_reducible conv => whnf); (with_reducible conv => congr <;> reduce)))
  refine IfK.mk (fun h0 => ?_) (fun h0 => ?_) <;> (try simp only [castN] at h0) <;> ((with_reducible conv => whnf); (with_reducible conv => congr <;> reduce); repeat ((first | (with_reducible refine HaltK.mk ?_) | (with_reducible refine StopK.mk ?_)); (with_reducible conv => whnf); (with_reducible conv => congr <;> reduce)))
  · refine ⟨⟨rfl, rfl⟩, ?_, ?_⟩ <;> (with_reducible conv => whnf) <;> repeat' (first | (with_reducible exact trivial) | (with_reducible refine And.intro ?_ ?_ <;> with_reducible conv => whnf))
    simp only [hlm, decide_eq_true_eq] at h0
    unfold rightA; rw [decide_eq_false (by omega)]; rfl
  · simp only [hlm, decide_eq_false_iff_not] at h0
    have hr := rightA_iff l (by omega)
    refine LoopK.use G G_good (fun (k : Nat) => [(0, eAttrs l), (3, eInt k)]) (fun _ => []) (fun k => k ≤ l.length ∧ ∀ j x, j < k → l[j]? = some x → goodAt l j x = true) (fun k => l.length - k) 0 ⟨Nat.zero_le _, fun j x h => by omega⟩
      ⟨⟨rfl, rfl⟩, ⟨rfl, rfl, trivial⟩, trivial⟩ ?_
    rintro k ⟨hk, hok⟩
    ((with_reducible conv => whnf); (with_reducible conv => congr <;> reduce); repeat ((first | (with_reducible refine HaltK.mk ?_) | (with_reducible refine StopK.mk ?_)); (with_reducible conv => whnf); (with_reducible conv => congr <;> reduce)))
    refine IfK.mk (fun h1 => ?_) (fun h1 => ?_) <;> (try simp only [castN] at h1) <;> ((with_reducible conv => whnf); (with_reducible conv => congr <;> reduce); repeat ((first | (with_reducible refine HaltK.mk ?_) | (with_reducible refine StopK.mk ?_)); (with_reducible conv => whnf); (with_reducible conv => congr <;> reduce)))
    · simp only [decide_eq_true_eq] at h1
      have hk' : k < l.length := by omega
      obtain ⟨⟨an, av⟩, ha⟩ : ∃ a, l[k]? = some a := ⟨_, List.getElem?_eq_getElem hk'⟩
      have next : goodAt l k ⟨an, av⟩ = true → ∀ j x, j < k + 1 → l[j]? = some x → goodAt l j x = true := by
        intro h j x hj hx
        rcases Nat.lt_or_ge j k with h6 | h6
        · exact hok j x h6 hx
        · have : j = k := by omega
          subst this
          rw [ha] at hx; cases hx; exact h
      have no : goodAt l k ⟨an, av⟩ = false → rightA l = false := by
        intro h
        cases h' : rightA l with
        | false => rfl
        | true => rw [hr.1 h' k _ ha] at h; cases h
      repeat' (first
    | ((with_reducible show IfK _ _ _ _); first
      | (refine IfK.yes (by assumption) ?_; ((with_reducible conv => whnf); (with_reducible conv => congr <;> reduce); repeat ((first | (with_reducible refine HaltK.mk ?_) | (with_reducible refine StopK.mk ?_)); (with_reducible conv => whnf); (with_reducible conv => congr <;> reduce))))
      | (refine IfK.no (by assumption) ?_; ((with_reducible conv => whnf); (with_reducible conv => congr <;> reduce); repeat ((first | (with_reducible refine HaltK.mk ?_) | (with_reducible refine StopK.mk ?_)); (with_reducible conv => whnf); (with_reducible conv => congr <;> reduce))))
      | (with_reducible refine IfK.yes Bool.not_false ?_; ((with_reducible conv => whnf); (with_reducible conv => congr <;> reduce); repeat ((first | (with_reducible refine HaltK.mk ?_) | (with_reducible refine StopK.mk ?_)); (with_reducible conv => whnf); (with_reducible conv => congr <;> reduce))))
      | (with_reducible refine IfK.no Bool.not_true ?_; ((with_reducible conv => whnf); (with_reducible conv => congr <;> reduce); repeat ((first | (with_reducible refine HaltK.mk ?_) | (with_reducible refine StopK.mk ?_)); (with_reducible conv => whnf); (with_reducible conv => congr <;> reduce))))
      | (with_reducible refine IfK.yes (nf (by assumption)) ?_; ((with_reducible conv => whnf); (with_reducible conv => congr <;> reduce); repeat ((first | (with_reducible refine HaltK.mk ?_) | (with_reducible refine StopK.mk ?_)); (with_reducible conv => whnf); (with_reducible conv => congr <;> reduce))))
      | (with_reducible refine IfK.no (nt (by assumption)) ?_; ((with_reducible conv => whnf); (with_reducible conv => congr <;> reduce); repeat ((first | (with_reducible refine HaltK.mk ?_) | (with_reducible refine StopK.mk ?_)); (with_reducible conv => whnf); (with_reducible conv => congr <;> reduce))))
      | (with_reducible refine IfK.tt ?_; ((with_reducible conv => whnf); (with_reducible conv => congr <;> reduce); repeat ((first | (with_reducible refine HaltK.mk ?_) | (with_reducible refine StopK.mk ?_)); (with_reducible conv => whnf); (with_reducible conv => congr <;> reduce))))
      | (with_reducible refine IfK.ff ?_; ((with_reducible conv => whnf); (with_reducible conv => congr <;> reduce); repeat ((first | (with_reducible refine HaltK.mk ?_) | (with_reducible refine StopK.mk ?_)); (with_reducible conv => whnf); (with_reducible conv => congr <;> reduce))))
      | (refine IfK.mk (fun _ => ?_) (fun _ => ?_) <;> ((with_reducible conv => whnf); (with_reducible conv => congr <;> reduce); repeat ((first | (with_reducible refine HaltK.mk ?_) | (with_reducible refine StopK.mk ?_)); (with_reducible conv => whnf); (with_reducible conv => congr <;> reduce)))))
    | ((with_reducible show IdxK _ _ _ _ _); refine IdxK.mk k (eAttr ⟨an, av⟩) rfl (attr_get ha) ?_; ((with_reducible conv => whnf); (with_reducible conv => congr <;> reduce); repeat ((first | (with_reducible refine HaltK.mk ?_) | (with_reducible refine StopK.mk ?_)); (with_reducible conv => whnf); (with_reducible conv => congr <;> reduce))))
    | ((with_reducible show CallK _ _ 30 _ _ _ _); refine CallK.lit [] (f30_ok _) c30 ⟨rfl, trivial⟩ rfl rfl ?_; ((with_reducible conv => whnf); (with_reducible conv => congr <;> reduce); repeat ((first | (with_reducible refine HaltK.mk ?_) | (with_reducible refine StopK.mk ?_)); (with_reducible conv => whnf); (with_reducible conv => congr <;> reduce))))
    | ((with_reducible show CallK _ _ 31 _ _ _ _); refine CallK.lit [] (f31_ok _ (right_small (by assumption))) c31 ⟨rfl, trivial⟩ rfl rfl ?_; ((with_reducible conv => whnf); (with_reducible conv => congr <;> reduce); repeat ((first | (with_reducible refine HaltK.mk ?_) | (with_reducible refine StopK.mk ?_)); (with_reducible conv => whnf); (with_reducible conv => congr <;> reduce))))
    | ((with_reducible show CallK _ _ 36 _ _ _ _); refine CallK.lit [] (f36_ok l hl _) c36 ⟨rfl, rfl, trivial⟩ rfl rfl ?_; ((with_reducible conv => whnf); (with_reducible conv => congr <;> reduce); repeat ((first | (with_reducible refine HaltK.mk ?_) | (with_reducible refine StopK.mk ?_)); (with_reducible conv => whnf); (with_reducible conv => congr <;> reduce))))
    | ((with_reducible show DrawK _ _ _ _); refine DrawK.mk (by kernel_rfl) (by kernel_rfl) (by kernel_rfl) ?_; ((with_reducible conv => whnf); (with_reducible conv => congr <;> reduce); repeat ((first | (with_reducible refine HaltK.mk ?_) | (with_reducible refine StopK.mk ?_)); (with_reducible conv => whnf); (with_reducible conv => congr <;> reduce))))
    | ((with_reducible show NeedK _ _ _ _); refine NeedK.mk (by (try simp only [castN]); omega) ?_; ((with_reducible conv => whnf); (with_reducible conv => congr <;> reduce); repeat ((first | (with_reducible refine HaltK.mk ?_) | (with_reducible refine StopK.mk ?_)); (with_reducible conv => whnf); (with_reducible conv => congr <;> reduce))))
    | ((with_reducible show NextK _ _); refine NextK.mk (k + 1) ⟨by omega, next ?_⟩ (by omega) ⟨⟨rfl, rfl⟩, ⟨rfl, by show ((k + 1 : Nat) : Int) = (k : Int) + 1; omega, trivial⟩, trivial⟩)
    | ((with_reducible show (_ ∧ _) ∧ _ ∧ _); refine ⟨⟨rfl, rfl⟩, ?_, ?_⟩ <;> (with_reducible conv => whnf) <;> repeat' (first | (with_reducible exact trivial) | (with_reducible refine And.intro ?_ ?_ <;> with_reducible conv => whnf))))
      all_goals first
        | (refine no ?_; unfold goodAt okA; (try simp only [castN] at *); simp_all <;> omega)
        | (unfold goodAt okA; (try simp only [castN] at *); simp_all <;> omega)
    · refine ⟨⟨rfl, rfl⟩, ?_, ?_⟩ <;> (with_reducible conv => whnf) <;> repeat' (first | (with_reducible exact trivial) | (with_reducible refine And.intro ?_ ?_ <;> with_reducible conv => whnf))
      refine hr.2 fun j x hx => hok j x ?_ hx
      have := (List.getElem?_eq_some_iff.1 hx).1
      simp only [decide_eq_false_iff_not] at h1; omega
end Go.Proofs.Able
end
section
set_option linter.unusedSimpArgs false
set_option linter.unusedVariables false
namespace Go.Proofs
open Go.Shelf
def Try.lays144_ren : Go.Shelf.Ren := ⟨fun | 144 => 74 | 143 => 86 | 219 => 92 | 217 => 95 | 225 => 96 | 224 => 97 | 267 => 98 | 266 => 99 | 314 => 100 | n => n, fun | 9 => 9 | 4 => 4 | 3 => 3 | 5 => 5 | 46 => 105 | 146 => 107 | 51 => 106 | n => n, fun | 1 => 0 | n => n⟩
theorem Try.lays144 : Go.Proofs.Lays.n144 Try.prog Try.lays144_ren := {
  mixed := by kernel_rfl
  f143 := Try.func86.trans (congrArg some (by kernel_rfl))
  f144 := Try.func74.trans (congrArg some (by kernel_rfl))
  f217 := Try.func95.trans (congrArg some (by kernel_rfl))
  f219 := Try.func92.trans (congrArg some (by kernel_rfl))
  f224 := Try.func97.trans (congrArg some (by kernel_rfl))
  f225 := Try.func96.trans (congrArg some (by kernel_rfl))
  f266 := Try.func99.trans (congrArg some (by kernel_rfl))
  f267 := Try.func98.trans (congrArg some (by kernel_rfl))
  f314 := Try.func100.trans (congrArg some (by kernel_rfl))
  t3 := Try.underlying3
  a3 := Try.isAgg3
  z3 := Try.sizeOf3
  v3 := Try.zeroValue3
  t4 := Try.underlying4
  a4 := Try.isAgg4
  z4 := Try.sizeOf4
  v4 := Try.zeroValue4
  t5 := Try.underlying5
  a5 := Try.isAgg5
  z5 := Try.sizeOf5
  v5 := Try.zeroValue5
  t9 := Try.underlying9
  a9 := Try.isAgg9
  z9 := Try.sizeOf9
  v9 := Try.zeroValue9
  t46 := Try.underlying105
  a46 := Try.isAgg105
  z46 := Try.sizeOf105
  v46 := Try.zeroValue105
  t51 := Try.underlying106
  a51 := Try.isAgg106
  z51 := Try.sizeOf106
  v51 := Try.zeroValue106
  t146 := Try.underlying107
  a146 := Try.isAgg107
  z146 := Try.sizeOf107
  v146 := Try.zeroValue107
  g1 := by kernel_rfl }
open Go.RowKit Go.Lib in
theorem Try.strings_Contains_one (s : ByteArray) (c : UInt8) (w : World) :
    Calls Try.prog 74 #[.string s, .string ⟨#[c]⟩] w fun e w' => e = .returned (.bool (decide (0 ≤ Lib.indexByte s.data.toList c))) ∧ w' = w := Any.strings_Contains_one Try.lays144 s c w
end Go.Proofs
end
section
set_option linter.unusedSimpArgs false
set_option linter.unusedVariables false
namespace Go.Proofs.Able
open Go.Am Go.RowKit Go.Lib
set_option maxRecDepth 100000
def oStr (s : ByteArray) : AV := eStr s
@[reducible] def eStrs (l : List ByteArray) : AV := .sl 1 (l.map oStr)
@[reducible] def rStrs (l : List ByteArray) : MS := .live 1 (l.map oStr) false
theorem noRef_strs (l : List ByteArray) : noRefL (l.map oStr) = true := by
  rw [noRefL_iff]; intro x hx
  obtain ⟨a, _, rfl⟩ := List.mem_map.1 hx
  rfl
theorem strs_get {l : List ByteArray} {k : Nat} {a : ByteArray} (h : l[k]? = some a) : (l.map oStr)[k]? = some (eStr a) := by rw [List.getElem?_map, h]; rfl
theorem strs_outs (l : List ByteArray) : okOuts [rStrs l] := ⟨Wide.of_mem fun r hr => by obtain ⟨a, _, rfl⟩ := List.mem_map.1 hr; rfl, noRef_strs l, trivial⟩
theorem frz_strs {m : ML} {fz : Nat → Bool} {tab : List (Nat × Nat)} {n t len : Nat} {ro : Bool} {rows : List AV} {l : List ByteArray} (h1 : lkM m t = .live 1 rows ro) (h2 : fz t = true) (h3 : rows = l.map oStr) (h4 : len = l.length) : FrzK m fz (MF tab fz m n) (eStrs l) t 0 len := by
  subst h3; subst h4
  have e : (l.map oStr).length = l.length := List.length_map ..
  exact .cut h1 h2 (by omega) (by rw [List.drop_zero, List.take_of_length_le (by omega)]) (noRef_strs l)
theorem f87_ok (l : List ByteArray) (hl : l.length ≤ 100000) (s : ByteArray) : FnOK Try.prog 87 [] [eStrs l, eStr s] [] (eInt (idxI (fun x => decide (x = s)) l)) := by
  have hlm : (l.map oStr).length = l.length := List.length_map ..
  refine FnOK.startC (rvs := [.tmp 4]) G G_good Try.func87 rfl Try.ntmps87 rfl rfl ?_; delta List.toArray; ((with_reducible conv => whnf); (with_reducible conv => congr <;> reduce); repeat ((first | (with_reducible refine HaltK.mk ?_) | (with_reducible refine StopK.mk ?_)); (with_reducible conv => whnf); (with_reducible conv => congr <;> reduce)))
  refine LoopK.use G G_good (fun (k : Nat) => [(0, eStrs l), (1, eStr s), (7, eInt l.length), (8, eInt k)]) (fun _ => []) (fun k => k ≤ l.length ∧ ∀ j x, j < k → l[j]? = some x → decide (x = s) = false) (fun k => l.length - k) 0 ⟨Nat.zero_le _, fun j x h => by omega⟩
    ⟨⟨rfl, rfl⟩, ⟨rfl, rfl, by show (l.length : Int) = ((l.map oStr).length : Int); rw [hlm], rfl, trivial⟩, trivial⟩ ?_
  rintro k ⟨hk, hno⟩
  ((with_reducible conv => whnf); (with_reducible conv => congr <;> reduce); repeat ((first | (with_reducible refine HaltK.mk ?_) | (with_reducible refine StopK.mk ?_)); (with_reducible conv => whnf); (with_reducible conv => congr <;> reduce)))
  refine IfK.mk (fun h1 => ?_) (fun h1 => ?_) <;> (try simp only [castN] at h1) <;> ((with_reducible conv => whnf); (with_reducible conv => congr <;> reduce); repeat ((first | (with_reducible refine HaltK.mk ?_) | (with_reducible refine StopK.mk ?_)); (with_reducible conv => whnf); (with_reducible conv => congr <;> reduce)))
  · simp only [decide_eq_true_eq] at h1
    have hk' : k < l.length := by omega
    obtain ⟨a, ha⟩ : ∃ a, l[k]? = some a := ⟨_, List.getElem?_eq_getElem hk'⟩
    refine IdxK.mk k (eStr a) rfl (strs_get ha) ?_; ((with_reducible conv => whnf); (with_reducible conv => congr <;> reduce); repeat ((first | (with_reducible refine HaltK.mk ?_) | (with_reducible refine StopK.mk ?_)); (with_reducible conv => whnf); (with_reducible conv => congr <;> reduce)))
    refine IfK.mk (fun h2 => ?_) (fun h2 => ?_) <;> (try simp only [castN] at h2) <;> ((with_reducible conv => whnf); (with_reducible conv => congr <;> reduce); repeat ((first | (with_reducible refine HaltK.mk ?_) | (with_reducible refine StopK.mk ?_)); (with_reducible conv => whnf); (with_reducible conv => congr <;> reduce)))
    · refine ⟨⟨rfl, rfl⟩, ?_, ?_⟩ <;> (with_reducible conv => whnf) <;> repeat' (first | (with_reducible exact trivial) | (with_reducible refine And.intro ?_ ?_ <;> with_reducible conv => whnf))
      refine idxI_hit (p := fun x => decide (x = s)) ha ?_ hno
      simp only [decide_eq_true_eq] at h2 ⊢; exact h2.symm
    · refine NeedK.mk (by (try simp only [castN]); omega) ?_; ((with_reducible conv => whnf); (with_reducible conv => congr <;> reduce); repeat ((first | (with_reducible refine HaltK.mk ?_) | (with_reducible refine StopK.mk ?_)); (with_reducible conv => whnf); (with_reducible conv => congr <;> reduce)))
      refine NextK.mk (k + 1) ⟨by omega, fun j x hj hx => ?_⟩ (by omega) ⟨⟨rfl, rfl⟩, ⟨rfl, rfl, rfl, by show ((k + 1 : Nat) : Int) = (k : Int) + 1; omega, trivial⟩, trivial⟩
      rcases Nat.lt_or_ge j k with h3 | h3
      · exact hno j x h3 hx
      · have : j = k := by omega
        subst this
        rw [ha] at hx; cases hx
        simp only [decide_eq_false_iff_not] at h2 ⊢; exact fun e => h2 e.symm
  · refine ⟨⟨rfl, rfl⟩, ?_, ?_⟩ <;> (with_reducible conv => whnf) <;> repeat' (first | (with_reducible exact trivial) | (with_reducible refine And.intro ?_ ?_ <;> with_reducible conv => whnf))
    exact idxI_none fun j x hx => hno j x (by have := (List.getElem?_eq_some_iff.1 hx).1; simp only [decide_eq_false_iff_not] at h1; omega) hx
def hasW (l : List ByteArray) (s : ByteArray) : Bool := l.any fun x => decide (x = s)
theorem hasW_iff {l : List ByteArray} {s : ByteArray} : hasW l s = true ↔ s ∈ l := by
  unfold hasW; rw [List.any_eq_true]
  exact ⟨fun ⟨x, hx, e⟩ => by rw [← of_decide_eq_true e]; exact hx, fun h => ⟨s, h, decide_eq_true rfl⟩⟩
theorem idxI_mem {l : List ByteArray} {s : ByteArray} : decide (0 ≤ idxI (fun x => decide (x = s)) l) = hasW l s := by
  rw [Bool.eq_iff_iff, decide_eq_true_eq, hasW_iff]
  unfold idxI
  cases h : l.findIdx? (fun x => decide (x = s)) with
  | none =>
    rw [List.findIdx?_eq_none_iff] at h
    simp only
    refine ⟨fun h' => by omega, fun hs => ?_⟩
    have := h s hs
    simp at this
  | some k =>
    rw [List.findIdx?_eq_some_iff_getElem] at h
    obtain ⟨hk, h2, _⟩ := h
    simp only
    exact ⟨fun _ => by rw [← of_decide_eq_true h2]; exact List.getElem_mem hk, fun _ => by omega⟩
theorem f75_ok (l : List ByteArray) (hl : l.length ≤ 100000) (s : ByteArray) : FnOK Try.prog 75 [] [eStrs l, eStr s] [] (eBool (hasW l s)) := by
  rw [← idxI_mem]
  refine FnOK.startC (rvs := [.tmp 4]) G G_good Try.func75 rfl Try.ntmps75 rfl rfl ?_; delta List.toArray; ((with_reducible conv => whnf); (with_reducible conv => congr <;> reduce); repeat ((first | (with_reducible refine HaltK.mk ?_) | (with_reducible refine StopK.mk ?_)); (with_reducible conv => whnf); (with_reducible conv => congr <;> reduce)))
  refine CallK.lit [] (f87_ok l hl s) c87 ⟨rfl, rfl, trivial⟩ rfl rfl ?_; ((with_reducible conv => whnf); (with_reducible conv => congr <;> reduce); repeat ((first | (with_reducible refine HaltK.mk ?_) | (with_reducible refine StopK.mk ?_)); (with_reducible conv => whnf); (with_reducible conv => congr <;> reduce)))
  refine ⟨⟨rfl, rfl⟩, ?_, ?_⟩ <;> (with_reducible conv => whnf) <;> repeat' (first | (with_reducible exact trivial) | (with_reducible refine And.intro ?_ ?_ <;> with_reducible conv => whnf))
def strB (l : List UInt8) : ByteArray := ⟨l.toArray⟩
def resL : List ByteArray := [strB [97, 110, 110, 111, 116, 97, 116, 105, 111, 110, 45, 120, 109, 108], strB [99, 111, 108, 111, 114, 45, 112, 114, 111, 102, 105, 108, 101], strB [102, 111, 110, 116, 45, 102, 97, 99, 101], strB [102, 111, 110, 116, 45, 102, 97, 99, 101, 45, 115, 114, 99],
  strB [102, 111, 110, 116, 45, 102, 97, 99, 101, 45, 117, 114, 105], strB [102, 111, 110, 116, 45, 102, 97, 99, 101, 45, 102, 111, 114, 109, 97, 116], strB [102, 111, 110, 116, 45, 102, 97, 99, 101, 45, 110, 97, 109, 101], strB [109, 105, 115, 115, 105, 110, 103, 45, 103, 108, 121, 112, 104]]
theorem f76_ok : FnOK Try.prog 76 [] [] [rStrs resL] (.own 0 0 8) := by
  refine FnOK.startC (rvs := [.tmp 0]) G G_good Try.func76 rfl Try.ntmps76 rfl rfl ?_; delta List.toArray; ((with_reducible conv => whnf); (with_reducible conv => congr <;> reduce); repeat ((first | (with_reducible refine HaltK.mk ?_) | (with_reducible refine StopK.mk ?_)); (with_reducible conv => whnf); (with_reducible conv => congr <;> reduce)))
  refine ⟨⟨rfl, rfl⟩, ?_, ?_⟩ <;> (with_reducible conv => whnf) <;> repeat' (first | (with_reducible exact trivial) | (with_reducible refine And.intro ?_ ?_ <;> with_reducible conv => whnf))
  all_goals first | rfl | exact MFL_refl (noRef_strs resL)
theorem f74_ok (s : ByteArray) (c : UInt8) : FnOK Try.prog 74 [] [eStr s, eStr ⟨#[c]⟩] [] (eBool (decide (0 ≤ Lib.indexByte s.data.toList c))) :=
  FnOK.of_calls (vs := [.string s, .string ⟨#[c]⟩]) (v := .bool _) fun w _ => (Go.Proofs.Try.strings_Contains_one s c w).mono fun e w' ⟨h1, h2⟩ => ⟨h1, by rw [h2]; exact Below.refl _ w⟩
end Go.Proofs.Able
end
section
set_option linter.unusedSimpArgs false
set_option linter.unusedVariables false
namespace Go.Proofs.Able
open Go.Am Go.RowKit Go.Lib
set_option maxRecDepth 100000
def segsGo (cur : List UInt8) : List UInt8 → List (List UInt8)
  | [] => [cur]
  | c :: r => if c = 32 then cur :: segsGo [] r else segsGo (cur ++ [c]) r
def isW (s : ByteArray) (g : List UInt8) : Bool := decide (strOf g = s)
def oneW (s : ByteArray) (ws : List UInt8) : Bool := (segsGo [] ws).any (isW s)
theorem cut_strOf (s : ByteArray) (a b : Nat) : s.extract a b = strOf ((s.data.toList.take b).drop a) := by
  obtain ⟨l, rfl⟩ : ∃ l : List UInt8, s = ⟨l.toArray⟩ := ⟨s.data.toList, by obtain ⟨⟨l⟩⟩ := s; rfl⟩
  rw [ByteArray.extract_mk]
  unfold strOf
  rw [List.drop_take]
theorem seg_next {l : List UInt8} {i : Nat} {c : UInt8} (h : l[i]? = some c) (cur : List UInt8) : segsGo cur (l.drop i) = if c = 32 then cur :: segsGo [] (l.drop (i + 1)) else segsGo (cur ++ [c]) (l.drop (i + 1)) := by
  have hk := (List.getElem?_eq_some_iff.1 h).1
  rw [List.drop_eq_getElem_cons hk, (List.getElem?_eq_some_iff.1 h).2]; rfl
theorem cur_next {l : List UInt8} {i a : Nat} {c : UInt8} (h : l[i]? = some c) (ha : a ≤ i) : (l.take (i + 1)).drop a = (l.take i).drop a ++ [c] := by
  have hk := (List.getElem?_eq_some_iff.1 h).1
  rw [List.take_succ_eq_append_getElem hk, (List.getElem?_eq_some_iff.1 h).2, List.drop_append_of_le_length (by simp; omega)]
structure OneI (s : ByteArray) (l : List UInt8) (i a : Nat) : Prop where
  le : a ≤ i
  hi : i ≤ l.length + 1
  mid : i ≤ l.length → oneW s l = (segsGo ((l.take i).drop a) (l.drop i)).any (isW s)
  fin : l.length < i → oneW s l = false
theorem is_32 {c : UInt8} : decide ((c.toNat : Int) = 32) = decide (c = 32) := by
  rw [decide_eq_decide]
  constructor
  · intro h
    have : c.toNat = (32 : UInt8).toNat := by have : (32 : UInt8).toNat = 32 := rfl
                                              omega
    exact UInt8.toNat_inj.1 this
  · rintro rfl; rfl
theorem f53_ok (s w : ByteArray) (hw : w.size ≤ 100000) : FnOK Try.prog 53 [] [eStr s, eStr w] [] (eBool (oneW s w.data.toList)) := by
  have hsz : w.size = w.data.toList.length := size_len w
  have hcut := cut_strOf w
  obtain ⟨l, hl⟩ : ∃ l, w.data.toList = l := ⟨_, rfl⟩
  rw [hl] at hsz hcut ⊢
  refine FnOK.startC (rvs := [.tmp 4]) G G_good Try.func53 rfl Try.ntmps53 rfl rfl ?_; delta List.toArray; ((with_reducible conv => whnf); (with_reducible conv => congr <;> reduce); repeat ((first | (with_reducible refine HaltK.mk ?_) | (with_reducible refine StopK.mk ?_)); (with_reducible conv => whnf); (with_reducible conv => congr <;> reduce)))
  refine LoopK.use G G_good (fun (p : Nat × Nat) => [(0, eStr s), (1, eStr w), (5, eInt p.2), (6, eInt p.1)]) (fun _ => []) (fun p => OneI s l p.1 p.2) (fun p => l.length + 1 - p.1) (0, 0) ⟨Nat.le_refl _, Nat.zero_le _, fun _ => rfl, fun h => by omega⟩
    ⟨⟨rfl, rfl⟩, ⟨rfl, rfl, rfl, rfl, trivial⟩, trivial⟩ ?_
  rintro ⟨i, a⟩ hI
  have h1 := hI.le
  have h2 := hI.hi
  simp only at h1 h2
  ((with_reducible conv => whnf); (with_reducible conv => congr <;> reduce); repeat ((first | (with_reducible refine HaltK.mk ?_) | (with_reducible refine StopK.mk ?_)); (with_reducible conv => whnf); (with_reducible conv => congr <;> reduce)))
  refine IfK.mk (fun g1 => ?_) (fun g1 => ?_) <;> (try simp only [castN] at g1) <;> ((with_reducible conv => whnf); (with_reducible conv => congr <;> reduce); repeat ((first | (with_reducible refine HaltK.mk ?_) | (with_reducible refine StopK.mk ?_)); (with_reducible conv => whnf); (with_reducible conv => congr <;> reduce)))
  · simp only [decide_eq_true_eq] at g1
    have hil : i ≤ l.length := by omega
    have hm := hI.mid hil
    simp only at hm
    refine IfK.mk (fun g2 => ?_) (fun g2 => ?_) <;> (try simp only [castN] at g2) <;> ((with_reducible conv => whnf); (with_reducible conv => congr <;> reduce); repeat ((first | (with_reducible refine HaltK.mk ?_) | (with_reducible refine StopK.mk ?_)); (with_reducible conv => whnf); (with_reducible conv => congr <;> reduce)))
    · simp only [decide_eq_true_eq] at g2
      have hie : i = l.length := by omega
      have hd : l.drop i = [] := by rw [hie]; exact List.drop_length
      rw [hd] at hm
      refine IfK.tt ?_; ((with_reducible conv => whnf); (with_reducible conv => congr <;> reduce); repeat ((first | (with_reducible refine HaltK.mk ?_) | (with_reducible refine StopK.mk ?_)); (with_reducible conv => whnf); (with_reducible conv => congr <;> reduce)))
      refine CutSK.mk a i rfl rfl h1 (by show i ≤ w.size; omega) ?_; ((with_reducible conv => whnf); (with_reducible conv => congr <;> reduce); repeat ((first | (with_reducible refine HaltK.mk ?_) | (with_reducible refine StopK.mk ?_)); (with_reducible conv => whnf); (with_reducible conv => congr <;> reduce)))
      rw [hcut]
      refine IfK.mk (fun g3 => ?_) (fun g3 => ?_) <;> (try simp only [castN] at g3) <;> ((with_reducible conv => whnf); (with_reducible conv => congr <;> reduce); repeat ((first | (with_reducible refine HaltK.mk ?_) | (with_reducible refine StopK.mk ?_)); (with_reducible conv => whnf); (with_reducible conv => congr <;> reduce)))
      · refine ⟨⟨rfl, rfl⟩, ?_, ?_⟩ <;> (with_reducible conv => whnf) <;> repeat' (first | (with_reducible exact trivial) | (with_reducible refine And.intro ?_ ?_ <;> with_reducible conv => whnf))
        rw [hm]
        simp only [segsGo, List.any_cons, List.any_nil, Bool.or_false, isW]
        simpa using g3
      · refine NeedK.mk (by (try simp only [castN]); omega) ?_; ((with_reducible conv => whnf); (with_reducible conv => congr <;> reduce); repeat ((first | (with_reducible refine HaltK.mk ?_) | (with_reducible refine StopK.mk ?_)); (with_reducible conv => whnf); (with_reducible conv => congr <;> reduce)))
        refine NeedK.mk (by (try simp only [castN]); omega) ?_; ((with_reducible conv => whnf); (with_reducible conv => congr <;> reduce); repeat ((first | (with_reducible refine HaltK.mk ?_) | (with_reducible refine StopK.mk ?_)); (with_reducible conv => whnf); (with_reducible conv => congr <;> reduce)))
        refine NextK.mk (i + 1, i + 1) ⟨Nat.le_refl _, by show i + 1 ≤ l.length + 1; omega, fun h => ?_, fun _ => ?_⟩ (by show l.length + 1 - (i + 1) < l.length + 1 - i; omega) ⟨⟨rfl, rfl⟩, ⟨rfl, rfl, by show ((i + 1 : Nat) : Int) = (i : Int) + 1; omega, by show ((i + 1 : Nat) : Int) = (i : Int) + 1; omega, trivial⟩, trivial⟩
        · simp only at h; omega
        · rw [hm]
          simp only [segsGo, List.any_cons, List.any_nil, Bool.or_false, isW]
          simpa using g3
    · have hi2 : i < l.length := by simp only [decide_eq_false_iff_not] at g2; omega
      obtain ⟨c, hc⟩ : ∃ c, l[i]? = some c := ⟨_, List.getElem?_eq_getElem hi2⟩
      refine IdxSK.mk i c rfl (by rw [hl]; exact hc) ?_; ((with_reducible conv => whnf); (with_reducible conv => congr <;> reduce); repeat ((first | (with_reducible refine HaltK.mk ?_) | (with_reducible refine StopK.mk ?_)); (with_reducible conv => whnf); (with_reducible conv => congr <;> reduce)))
      rw [is_32]
      have hsg := seg_next hc ((l.take i).drop a)
      rw [hsg] at hm
      by_cases hb : c = 32
      · rw [if_pos hb] at hm
        refine IfK.yes (by simp [hb]) ?_; ((with_reducible conv => whnf); (with_reducible conv => congr <;> reduce); repeat ((first | (with_reducible refine HaltK.mk ?_) | (with_reducible refine StopK.mk ?_)); (with_reducible conv => whnf); (with_reducible conv => congr <;> reduce)))
        refine CutSK.mk a i rfl rfl h1 (by show i ≤ w.size; omega) ?_; ((with_reducible conv => whnf); (with_reducible conv => congr <;> reduce); repeat ((first | (with_reducible refine HaltK.mk ?_) | (with_reducible refine StopK.mk ?_)); (with_reducible conv => whnf); (with_reducible conv => congr <;> reduce)))
        rw [hcut]
        refine IfK.mk (fun g3 => ?_) (fun g3 => ?_) <;> (try simp only [castN] at g3) <;> ((with_reducible conv => whnf); (with_reducible conv => congr <;> reduce); repeat ((first | (with_reducible refine HaltK.mk ?_) | (with_reducible refine StopK.mk ?_)); (with_reducible conv => whnf); (with_reducible conv => congr <;> reduce)))
        · refine ⟨⟨rfl, rfl⟩, ?_, ?_⟩ <;> (with_reducible conv => whnf) <;> repeat' (first | (with_reducible exact trivial) | (with_reducible refine And.intro ?_ ?_ <;> with_reducible conv => whnf))
          rw [hm]
          simp only [List.any_cons, isW]
          simp at g3
          simp [g3]
        · refine NeedK.mk (by (try simp only [castN]); omega) ?_; ((with_reducible conv => whnf); (with_reducible conv => congr <;> reduce); repeat ((first | (with_reducible refine HaltK.mk ?_) | (with_reducible refine StopK.mk ?_)); (with_reducible conv => whnf); (with_reducible conv => congr <;> reduce)))
          refine NeedK.mk (by (try simp only [castN]); omega) ?_; ((with_reducible conv => whnf); (with_reducible conv => congr <;> reduce); repeat ((first | (with_reducible refine HaltK.mk ?_) | (with_reducible refine StopK.mk ?_)); (with_reducible conv => whnf); (with_reducible conv => congr <;> reduce)))
          refine NextK.mk (i + 1, i + 1) ⟨Nat.le_refl _, by show i + 1 ≤ l.length + 1; omega, fun h => ?_, fun h => ?_⟩ (by show l.length + 1 - (i + 1) < l.length + 1 - i; omega) ⟨⟨rfl, rfl⟩, ⟨rfl, rfl, by show ((i + 1 : Nat) : Int) = (i : Int) + 1; omega, by show ((i + 1 : Nat) : Int) = (i : Int) + 1; omega, trivial⟩, trivial⟩
          · rw [hm]
            simp only [List.any_cons]
            have : isW s ((l.take i).drop a) = false := by unfold isW; simpa using g3
            rw [this, Bool.false_or, show (l.take (i + 1)).drop (i + 1) = [] from List.drop_eq_nil_of_le (by simp; omega)]
          · simp only at h; omega
      · rw [if_neg hb] at hm
        refine IfK.no (by simp [hb]) ?_; ((with_reducible conv => whnf); (with_reducible conv => congr <;> reduce); repeat ((first | (with_reducible refine HaltK.mk ?_) | (with_reducible refine StopK.mk ?_)); (with_reducible conv => whnf); (with_reducible conv => congr <;> reduce)))
        refine NeedK.mk (by (try simp only [castN]); omega) ?_; ((with_reducible conv => whnf); (with_reducible conv => congr <;> reduce); repeat ((first | (with_reducible refine HaltK.mk ?_) | (with_reducible refine StopK.mk ?_)); (with_reducible conv => whnf); (with_reducible conv => congr <;> reduce)))
        refine NextK.mk (i + 1, a) ⟨by show a ≤ i + 1; omega, by show i + 1 ≤ l.length + 1; omega, fun h => ?_, fun h => ?_⟩ (by show l.length + 1 - (i + 1) < l.length + 1 - i; omega) ⟨⟨rfl, rfl⟩, ⟨rfl, rfl, rfl, by show ((i + 1 : Nat) : Int) = (i : Int) + 1; omega, trivial⟩, trivial⟩
        · rw [hm, cur_next hc h1]
        · simp only at h; omega
  · refine ⟨⟨rfl, rfl⟩, ?_, ?_⟩ <;> (with_reducible conv => whnf) <;> repeat' (first | (with_reducible exact trivial) | (with_reducible refine And.intro ?_ ?_ <;> with_reducible conv => whnf))
    exact hI.fin (by simp only [decide_eq_false_iff_not] at g1; show l.length < i; omega)
end Go.Proofs.Able
end
