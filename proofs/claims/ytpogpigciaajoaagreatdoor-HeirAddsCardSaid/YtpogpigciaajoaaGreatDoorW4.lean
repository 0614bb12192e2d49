/- Models, plain laws and contracts of functions of the given program; conditions as stated in each theorem. By an AI agent. -/
import Derived.Test.YtpogpigciaajoaaGreatDoorW2
import Derived.Test.YtpogpigciaajoaaGreatDoorW3
import Derived.Test.YtpogpigciaajoaaGreatDoorChecked
import Derived.Test.YtpogpigciaajoaaGreatDoorW1
import Derived.Shelf.GgClosure.StringsIndexFunc
import Derived.Deep.LoopGhost
import Derived.WalkKit
import Derived.Laws.IdiomStrings
import Derived.IntWalk
import Derived.Outline
import Derived.Lib.Hide
import Derived.Lib.MapLaws
import Derived.Shelf.Strings.Search1
import Derived.Shelf.Strings.Search2
import Derived.Shelf.Strings.Search3
import Derived.Shelf.LaysM
import Derived.Shelf.Strings.Shaped
import Derived.Shelf.Strings.Fields
section
set_option linter.unusedSimpArgs false
set_option linter.unusedVariables false
namespace Go.Proofs.Heir
open Go.Am
set_option maxRecDepth 100000
theorem g1 : TI.ok Tryz.prog 1 (.sc .nilFunc) := ⟨fun _ => by kernel_rfl, fun _ => by kernel_rfl, fun _ => by kernel_rfl⟩
theorem g2 : TI.ok Tryz.prog 2 (.sc (.int .i64 0)) := ⟨fun _ => by kernel_rfl, fun _ => by kernel_rfl, fun _ => by kernel_rfl⟩
theorem g3 : TI.ok Tryz.prog 3 (.sc (.int .i64 0)) := ⟨fun _ => by kernel_rfl, fun _ => by kernel_rfl, fun _ => by kernel_rfl⟩
theorem g4 : TI.ok Tryz.prog 4 (.bl) := ⟨fun _ => by kernel_rfl, fun _ => by kernel_rfl, fun _ => by kernel_rfl, by kernel_rfl⟩
theorem g5 : TI.ok Tryz.prog 5 (.sc (.int .u8 0)) := ⟨fun _ => by kernel_rfl, fun _ => by kernel_rfl, fun _ => by kernel_rfl⟩
theorem g9 : TI.ok Tryz.prog 9 (.str) := ⟨fun _ => by kernel_rfl, fun _ => by kernel_rfl, fun _ => by kernel_rfl, by kernel_rfl⟩
theorem g12 : TI.ok Tryz.prog 12 (.sc (.int .u64 0)) := ⟨fun _ => by kernel_rfl, fun _ => by kernel_rfl, fun _ => by kernel_rfl⟩
theorem g15 : TI.ok Tryz.prog 15 (.sc (.pointer none)) := ⟨fun _ => by kernel_rfl, fun _ => by kernel_rfl, fun _ => by kernel_rfl⟩
theorem g16 : TI.ok Tryz.prog 16 (.sc (.pointer none)) := ⟨fun _ => by kernel_rfl, fun _ => by kernel_rfl, fun _ => by kernel_rfl⟩
theorem g17 : TI.ok Tryz.prog 17 (.sc (.pointer none)) := ⟨fun _ => by kernel_rfl, fun _ => by kernel_rfl, fun _ => by kernel_rfl⟩
theorem g20 : TI.ok Tryz.prog 20 (.sc .nilIface) := ⟨fun _ => by kernel_rfl, fun _ => by kernel_rfl, fun _ => by kernel_rfl⟩
theorem g21 : TI.ok Tryz.prog 21 (.sc (.int .i32 0)) := ⟨fun _ => by kernel_rfl, fun _ => by kernel_rfl, fun _ => by kernel_rfl⟩
theorem g22 : TI.ok Tryz.prog 22 (.sl 42 10 136) := ⟨fun _ => by kernel_rfl, fun _ => by kernel_rfl, fun _ => by kernel_rfl, fun _ => by kernel_rfl, (Tryz.prog.info? 42).getD default, (.agg #[(.int .i64 0), (.string ByteArray.empty), (.string ByteArray.empty), (.string ByteArray.empty), (.slice none 0 0), (.int .i64 0), (.slice none 0 0), (.int .i64 0), (.int .i64 0), (.int .i64 0)]), ⟨by kernel_rfl, by kernel_rfl, by kernel_rfl, by kernel_rfl, by kernel_rfl, by kernel_rfl⟩⟩
theorem g23 : TI.ok Tryz.prog 23 (.st 2 [(0, 22), (1, 3)] (Array.mk [(.slice none 0 0), (.int .i64 0)]) [1, 1]) := ⟨fun _ => by kernel_rfl, fun _ => by kernel_rfl, fun _ => by kernel_rfl, (fun f off ft h => match f, h with | 0, h => by cases h; exact ⟨fun _ _ => by kernel_rfl, fun _ _ => by kernel_rfl⟩ | 1, h => by cases h; exact ⟨fun _ _ => by kernel_rfl, fun _ _ => by kernel_rfl⟩ | (_ + 2), h => by simp at h),
    TBuild.mk (places := #[(0, 1), (1, 1)]) Tryz.underlying23 (fun _ => by kernel_rfl) (fun _ => by kernel_rfl) (fun i => match i with | 0 => rfl | 1 => rfl | (_ + 2) => by simp)⟩
theorem g24 : TI.ok Tryz.prog 24 (.st 2 [(0, 22), (1, 3)] (Array.mk [(.slice none 0 0), (.int .i64 0)]) [1, 1]) := ⟨fun _ => by kernel_rfl, fun _ => by kernel_rfl, fun _ => by kernel_rfl, (fun f off ft h => match f, h with | 0, h => by cases h; exact ⟨fun _ _ => by kernel_rfl, fun _ _ => by kernel_rfl⟩ | 1, h => by cases h; exact ⟨fun _ _ => by kernel_rfl, fun _ _ => by kernel_rfl⟩ | (_ + 2), h => by simp at h),
    TBuild.mk (places := #[(0, 1), (1, 1)]) Tryz.underlying24 (fun _ => by kernel_rfl) (fun _ => by kernel_rfl) (fun i => match i with | 0 => rfl | 1 => rfl | (_ + 2) => by simp)⟩
theorem g25 : TI.ok Tryz.prog 25 (.sl 39 3 40) := ⟨fun _ => by kernel_rfl, fun _ => by kernel_rfl, fun _ => by kernel_rfl, fun _ => by kernel_rfl, (Tryz.prog.info? 39).getD default, (.agg #[(.string ByteArray.empty), (.string ByteArray.empty), (.int .i64 0)]), ⟨by kernel_rfl, by kernel_rfl, by kernel_rfl, by kernel_rfl, by kernel_rfl, by kernel_rfl⟩⟩
theorem g26 : TI.ok Tryz.prog 26 (.sl 89 2 24) := ⟨fun _ => by kernel_rfl, fun _ => by kernel_rfl, fun _ => by kernel_rfl, fun _ => by kernel_rfl, (Tryz.prog.info? 89).getD default, (.agg #[(.string ByteArray.empty), (.int .i64 0)]), ⟨by kernel_rfl, by kernel_rfl, by kernel_rfl, by kernel_rfl, by kernel_rfl, by kernel_rfl⟩⟩
theorem g27 : TI.ok Tryz.prog 27 (.st 4 [(0, 25), (1, 26), (2, 3), (3, 4)] (Array.mk [(.slice none 0 0), (.slice none 0 0), (.int .i64 0), (.bool false)]) [1, 1, 1, 1]) := ⟨fun _ => by kernel_rfl, fun _ => by kernel_rfl, fun _ => by kernel_rfl, (fun f off ft h => match f, h with | 0, h => by cases h; exact ⟨fun _ _ => by kernel_rfl, fun _ _ => by kernel_rfl⟩ | 1, h => by cases h; exact ⟨fun _ _ => by kernel_rfl, fun _ _ => by kernel_rfl⟩ | 2, h => by cases h; exact ⟨fun _ _ => by kernel_rfl, fun _ _ => by kernel_rfl⟩ | 3, h => by cases h; exact ⟨fun _ _ => by kernel_rfl, fun _ _ => by kernel_rfl⟩ | (_ + 4), h => by simp at h),
    TBuild.mk (places := #[(0, 1), (1, 1), (2, 1), (3, 1)]) Tryz.underlying27 (fun _ => by kernel_rfl) (fun _ => by kernel_rfl) (fun i => match i with | 0 => rfl | 1 => rfl | 2 => rfl | 3 => rfl | (_ + 4) => by simp)⟩
theorem g28 : TI.ok Tryz.prog 28 (.st 4 [(0, 25), (1, 26), (2, 3), (3, 4)] (Array.mk [(.slice none 0 0), (.slice none 0 0), (.int .i64 0), (.bool false)]) [1, 1, 1, 1]) := ⟨fun _ => by kernel_rfl, fun _ => by kernel_rfl, fun _ => by kernel_rfl, (fun f off ft h => match f, h with | 0, h => by cases h; exact ⟨fun _ _ => by kernel_rfl, fun _ _ => by kernel_rfl⟩ | 1, h => by cases h; exact ⟨fun _ _ => by kernel_rfl, fun _ _ => by kernel_rfl⟩ | 2, h => by cases h; exact ⟨fun _ _ => by kernel_rfl, fun _ _ => by kernel_rfl⟩ | 3, h => by cases h; exact ⟨fun _ _ => by kernel_rfl, fun _ _ => by kernel_rfl⟩ | (_ + 4), h => by simp at h),
    TBuild.mk (places := #[(0, 1), (1, 1), (2, 1), (3, 1)]) Tryz.underlying28 (fun _ => by kernel_rfl) (fun _ => by kernel_rfl) (fun i => match i with | 0 => rfl | 1 => rfl | 2 => rfl | 3 => rfl | (_ + 4) => by simp)⟩
theorem g29 : TI.ok Tryz.prog 29 (.sc .nilFunc) := ⟨fun _ => by kernel_rfl, fun _ => by kernel_rfl, fun _ => by kernel_rfl⟩
theorem g30 : TI.ok Tryz.prog 30 (.sc .nilFunc) := ⟨fun _ => by kernel_rfl, fun _ => by kernel_rfl, fun _ => by kernel_rfl⟩
theorem g31 : TI.ok Tryz.prog 31 (.sc .nilFunc) := ⟨fun _ => by kernel_rfl, fun _ => by kernel_rfl, fun _ => by kernel_rfl⟩
theorem g32 : TI.ok Tryz.prog 32 (.sl 3 1 8) := ⟨fun _ => by kernel_rfl, fun _ => by kernel_rfl, fun _ => by kernel_rfl, fun _ => by kernel_rfl, (Tryz.prog.info? 3).getD default, (.int .i64 0), ⟨by kernel_rfl, by kernel_rfl, by kernel_rfl, by kernel_rfl, by kernel_rfl, by kernel_rfl⟩⟩
theorem g33 : TI.ok Tryz.prog 33 (.sc (.int .i64 0)) := ⟨fun _ => by kernel_rfl, fun _ => by kernel_rfl, fun _ => by kernel_rfl⟩
theorem g35 : TI.ok Tryz.prog 35 (.sc .nilFunc) := ⟨fun _ => by kernel_rfl, fun _ => by kernel_rfl, fun _ => by kernel_rfl⟩
theorem g36 : TI.ok Tryz.prog 36 (.sc .nilFunc) := ⟨fun _ => by kernel_rfl, fun _ => by kernel_rfl, fun _ => by kernel_rfl⟩
theorem g37 : TI.ok Tryz.prog 37 (.sc .nilFunc) := ⟨fun _ => by kernel_rfl, fun _ => by kernel_rfl, fun _ => by kernel_rfl⟩
theorem g38 : TI.ok Tryz.prog 38 (.st 3 [(0, 9), (1, 9), (2, 3)] (Array.mk [(.string ByteArray.empty), (.string ByteArray.empty), (.int .i64 0)]) [1, 1, 1]) := ⟨fun _ => by kernel_rfl, fun _ => by kernel_rfl, fun _ => by kernel_rfl, (fun f off ft h => match f, h with | 0, h => by cases h; exact ⟨fun _ _ => by kernel_rfl, fun _ _ => by kernel_rfl⟩ | 1, h => by cases h; exact ⟨fun _ _ => by kernel_rfl, fun _ _ => by kernel_rfl⟩ | 2, h => by cases h; exact ⟨fun _ _ => by kernel_rfl, fun _ _ => by kernel_rfl⟩ | (_ + 3), h => by simp at h),
    TBuild.mk (places := #[(0, 1), (1, 1), (2, 1)]) Tryz.underlying38 (fun _ => by kernel_rfl) (fun _ => by kernel_rfl) (fun i => match i with | 0 => rfl | 1 => rfl | 2 => rfl | (_ + 3) => by simp)⟩
theorem g39 : TI.ok Tryz.prog 39 (.st 3 [(0, 9), (1, 9), (2, 3)] (Array.mk [(.string ByteArray.empty), (.string ByteArray.empty), (.int .i64 0)]) [1, 1, 1]) := ⟨fun _ => by kernel_rfl, fun _ => by kernel_rfl, fun _ => by kernel_rfl, (fun f off ft h => match f, h with | 0, h => by cases h; exact ⟨fun _ _ => by kernel_rfl, fun _ _ => by kernel_rfl⟩ | 1, h => by cases h; exact ⟨fun _ _ => by kernel_rfl, fun _ _ => by kernel_rfl⟩ | 2, h => by cases h; exact ⟨fun _ _ => by kernel_rfl, fun _ _ => by kernel_rfl⟩ | (_ + 3), h => by simp at h),
    TBuild.mk (places := #[(0, 1), (1, 1), (2, 1)]) Tryz.underlying39 (fun _ => by kernel_rfl) (fun _ => by kernel_rfl) (fun i => match i with | 0 => rfl | 1 => rfl | 2 => rfl | (_ + 3) => by simp)⟩
theorem g40 : TI.ok Tryz.prog 40 (.sl 130 2 32) := ⟨fun _ => by kernel_rfl, fun _ => by kernel_rfl, fun _ => by kernel_rfl, fun _ => by kernel_rfl, (Tryz.prog.info? 130).getD default, (.agg #[(.string ByteArray.empty), (.string ByteArray.empty)]), ⟨by kernel_rfl, by kernel_rfl, by kernel_rfl, by kernel_rfl, by kernel_rfl, by kernel_rfl⟩⟩
theorem g41 : TI.ok Tryz.prog 41 (.st 10 [(0, 3), (1, 9), (2, 9), (3, 9), (4, 40), (5, 3), (6, 32), (7, 3), (8, 3), (9, 3)] (Array.mk [(.int .i64 0), (.string ByteArray.empty), (.string ByteArray.empty), (.string ByteArray.empty), (.slice none 0 0), (.int .i64 0), (.slice none 0 0), (.int .i64 0), (.int .i64 0), (.int .i64 0)]) [1, 1, 1, 1, 1, 1, 1, 1, 1, 1]) := ⟨fun _ => by kernel_rfl, fun _ => by kernel_rfl, fun _ => by kernel_rfl, (fun f off ft h => match f, h with | 0, h => by cases h; exact ⟨fun _ _ => by kernel_rfl, fun _ _ => by kernel_rfl⟩ | 1, h => by cases h; exact ⟨fun _ _ => by kernel_rfl, fun _ _ => by kernel_rfl⟩ | 2, h => by cases h; exact ⟨fun _ _ => by kernel_rfl, fun _ _ => by kernel_rfl⟩ | 3, h => by cases h; exact ⟨fun _ _ => by kernel_rfl, fun _ _ => by kernel_rfl⟩ | 4, h => by cases h; exact ⟨fun _ _ => by kernel_rfl, fun _ _ => by kernel_rfl⟩ | 5, h => by cases h; exact ⟨fun _ _ => by kernel_rfl, fun _ _ => by kernel_rfl⟩ | 6, h => by cases h; exact ⟨fun _ _ => by kernel_rfl, fun _ _ => by kernel_rfl⟩ | 7, h => by cases h; exact ⟨fun _ _ => by kernel_rfl, fun _ _ => by kernel_rfl⟩ | 8, h => by cases h; exact ⟨fun _ _ => by kernel_rfl, fun _ _ => by kernel_rfl⟩ | 9, h => by cases h; exact ⟨fun _ _ => by kernel_rfl, fun _ _ => by kernel_rfl⟩ | (_ + 10), h => by simp at h),
    TBuild.mk (places := #[(0, 1), (1, 1), (2, 1), (3, 1), (4, 1), (5, 1), (6, 1), (7, 1), (8, 1), (9, 1)]) Tryz.underlying41 (fun _ => by kernel_rfl) (fun _ => by kernel_rfl) (fun i => match i with | 0 => rfl | 1 => rfl | 2 => rfl | 3 => rfl | 4 => rfl | 5 => rfl | 6 => rfl | 7 => rfl | 8 => rfl | 9 => rfl | (_ + 10) => by simp)⟩
theorem g42 : TI.ok Tryz.prog 42 (.st 10 [(0, 3), (1, 9), (2, 9), (3, 9), (4, 40), (5, 3), (6, 32), (7, 3), (8, 3), (9, 3)] (Array.mk [(.int .i64 0), (.string ByteArray.empty), (.string ByteArray.empty), (.string ByteArray.empty), (.slice none 0 0), (.int .i64 0), (.slice none 0 0), (.int .i64 0), (.int .i64 0), (.int .i64 0)]) [1, 1, 1, 1, 1, 1, 1, 1, 1, 1]) := ⟨fun _ => by kernel_rfl, fun _ => by kernel_rfl, fun _ => by kernel_rfl, (fun f off ft h => match f, h with | 0, h => by cases h; exact ⟨fun _ _ => by kernel_rfl, fun _ _ => by kernel_rfl⟩ | 1, h => by cases h; exact ⟨fun _ _ => by kernel_rfl, fun _ _ => by kernel_rfl⟩ | 2, h => by cases h; exact ⟨fun _ _ => by kernel_rfl, fun _ _ => by kernel_rfl⟩ | 3, h => by cases h; exact ⟨fun _ _ => by kernel_rfl, fun _ _ => by kernel_rfl⟩ | 4, h => by cases h; exact ⟨fun _ _ => by kernel_rfl, fun _ _ => by kernel_rfl⟩ | 5, h => by cases h; exact ⟨fun _ _ => by kernel_rfl, fun _ _ => by kernel_rfl⟩ | 6, h => by cases h; exact ⟨fun _ _ => by kernel_rfl, fun _ _ => by kernel_rfl⟩ | 7, h => by cases h; exact ⟨fun _ _ => by kernel_rfl, fun _ _ => by kernel_rfl⟩ | 8, h => by cases h; exact ⟨fun _ _ => by kernel_rfl, fun _ _ => by kernel_rfl⟩ | 9, h => by cases h; exact ⟨fun _ _ => by kernel_rfl, fun _ _ => by kernel_rfl⟩ | (_ + 10), h => by simp at h),
    TBuild.mk (places := #[(0, 1), (1, 1), (2, 1), (3, 1), (4, 1), (5, 1), (6, 1), (7, 1), (8, 1), (9, 1)]) Tryz.underlying42 (fun _ => by kernel_rfl) (fun _ => by kernel_rfl) (fun i => match i with | 0 => rfl | 1 => rfl | 2 => rfl | 3 => rfl | 4 => rfl | 5 => rfl | 6 => rfl | 7 => rfl | 8 => rfl | 9 => rfl | (_ + 10) => by simp)⟩
theorem g43 : TI.ok Tryz.prog 43 (.sc .nilFunc) := ⟨fun _ => by kernel_rfl, fun _ => by kernel_rfl, fun _ => by kernel_rfl⟩
theorem g44 : TI.ok Tryz.prog 44 (.sc .nilFunc) := ⟨fun _ => by kernel_rfl, fun _ => by kernel_rfl, fun _ => by kernel_rfl⟩
theorem g45 : TI.ok Tryz.prog 45 (.sc .nilFunc) := ⟨fun _ => by kernel_rfl, fun _ => by kernel_rfl, fun _ => by kernel_rfl⟩
theorem g46 : TI.ok Tryz.prog 46 (.sc .nilFunc) := ⟨fun _ => by kernel_rfl, fun _ => by kernel_rfl, fun _ => by kernel_rfl⟩
theorem g47 : TI.ok Tryz.prog 47 (.sl 67 4 32) := ⟨fun _ => by kernel_rfl, fun _ => by kernel_rfl, fun _ => by kernel_rfl, fun _ => by kernel_rfl, (Tryz.prog.info? 67).getD default, (.agg #[(.int .i64 0), (.int .i64 0), (.int .i64 0), (.bool false)]), ⟨by kernel_rfl, by kernel_rfl, by kernel_rfl, by kernel_rfl, by kernel_rfl, by kernel_rfl⟩⟩
theorem g48 : TI.ok Tryz.prog 48 (.sl 63 5 104) := ⟨fun _ => by kernel_rfl, fun _ => by kernel_rfl, fun _ => by kernel_rfl, fun _ => by kernel_rfl, (Tryz.prog.info? 63).getD default, (.agg #[(.bool false), (.slice none 0 0), (.slice none 0 0), (.slice none 0 0), (.slice none 0 0)]), ⟨by kernel_rfl, by kernel_rfl, by kernel_rfl, by kernel_rfl, by kernel_rfl, by kernel_rfl⟩⟩
theorem g49 : TI.ok Tryz.prog 49 (.sc .nilFunc) := ⟨fun _ => by kernel_rfl, fun _ => by kernel_rfl, fun _ => by kernel_rfl⟩
theorem g50 : TI.ok Tryz.prog 50 (.sl 72 11 104) := ⟨fun _ => by kernel_rfl, fun _ => by kernel_rfl, fun _ => by kernel_rfl, fun _ => by kernel_rfl, (Tryz.prog.info? 72).getD default, (.agg #[(.int .i64 0), (.int .i64 0), (.int .i64 0), (.string ByteArray.empty), (.bool false), (.bool false), (.string ByteArray.empty), (.string ByteArray.empty), (.int .i64 0), (.int .i64 0), (.bool false)]), ⟨by kernel_rfl, by kernel_rfl, by kernel_rfl, by kernel_rfl, by kernel_rfl, by kernel_rfl⟩⟩
theorem g52 : TI.ok Tryz.prog 52 (.sc .nilFunc) := ⟨fun _ => by kernel_rfl, fun _ => by kernel_rfl, fun _ => by kernel_rfl⟩
theorem g53 : TI.ok Tryz.prog 53 (.sc .nilFunc) := ⟨fun _ => by kernel_rfl, fun _ => by kernel_rfl, fun _ => by kernel_rfl⟩
theorem g54 : TI.ok Tryz.prog 54 (.sc .nilFunc) := ⟨fun _ => by kernel_rfl, fun _ => by kernel_rfl, fun _ => by kernel_rfl⟩
theorem g55 : TI.ok Tryz.prog 55 (.sc .nilFunc) := ⟨fun _ => by kernel_rfl, fun _ => by kernel_rfl, fun _ => by kernel_rfl⟩
theorem g56 : TI.ok Tryz.prog 56 (.sc .nilFunc) := ⟨fun _ => by kernel_rfl, fun _ => by kernel_rfl, fun _ => by kernel_rfl⟩
theorem g57 : TI.ok Tryz.prog 57 (.sc .nilFunc) := ⟨fun _ => by kernel_rfl, fun _ => by kernel_rfl, fun _ => by kernel_rfl⟩
theorem g58 : TI.ok Tryz.prog 58 (.sc .nilFunc) := ⟨fun _ => by kernel_rfl, fun _ => by kernel_rfl, fun _ => by kernel_rfl⟩
theorem g59 : TI.ok Tryz.prog 59 (.sl 9 1 16) := ⟨fun _ => by kernel_rfl, fun _ => by kernel_rfl, fun _ => by kernel_rfl, fun _ => by kernel_rfl, (Tryz.prog.info? 9).getD default, (.string ByteArray.empty), ⟨by kernel_rfl, by kernel_rfl, by kernel_rfl, by kernel_rfl, by kernel_rfl, by kernel_rfl⟩⟩
theorem g60 : TI.ok Tryz.prog 60 (.sl 293 7 72) := ⟨fun _ => by kernel_rfl, fun _ => by kernel_rfl, fun _ => by kernel_rfl, fun _ => by kernel_rfl, (Tryz.prog.info? 293).getD default, (.agg #[(.int .i64 0), (.int .i64 0), (.int .i64 0), (.int .i64 0), (.string ByteArray.empty), (.string ByteArray.empty), (.bool false)]), ⟨by kernel_rfl, by kernel_rfl, by kernel_rfl, by kernel_rfl, by kernel_rfl, by kernel_rfl⟩⟩
theorem g61 : TI.ok Tryz.prog 61 (.sl 101 2 32) := ⟨fun _ => by kernel_rfl, fun _ => by kernel_rfl, fun _ => by kernel_rfl, fun _ => by kernel_rfl, (Tryz.prog.info? 101).getD default, (.agg #[(.int .i64 0), (.slice none 0 0)]), ⟨by kernel_rfl, by kernel_rfl, by kernel_rfl, by kernel_rfl, by kernel_rfl, by kernel_rfl⟩⟩
theorem g62 : TI.ok Tryz.prog 62 (.st 5 [(0, 4), (1, 59), (2, 60), (3, 60), (4, 61)] (Array.mk [(.bool false), (.slice none 0 0), (.slice none 0 0), (.slice none 0 0), (.slice none 0 0)]) [1, 1, 1, 1, 1]) := ⟨fun _ => by kernel_rfl, fun _ => by kernel_rfl, fun _ => by kernel_rfl, (fun f off ft h => match f, h with | 0, h => by cases h; exact ⟨fun _ _ => by kernel_rfl, fun _ _ => by kernel_rfl⟩ | 1, h => by cases h; exact ⟨fun _ _ => by kernel_rfl, fun _ _ => by kernel_rfl⟩ | 2, h => by cases h; exact ⟨fun _ _ => by kernel_rfl, fun _ _ => by kernel_rfl⟩ | 3, h => by cases h; exact ⟨fun _ _ => by kernel_rfl, fun _ _ => by kernel_rfl⟩ | 4, h => by cases h; exact ⟨fun _ _ => by kernel_rfl, fun _ _ => by kernel_rfl⟩ | (_ + 5), h => by simp at h),
    TBuild.mk (places := #[(0, 1), (1, 1), (2, 1), (3, 1), (4, 1)]) Tryz.underlying62 (fun _ => by kernel_rfl) (fun _ => by kernel_rfl) (fun i => match i with | 0 => rfl | 1 => rfl | 2 => rfl | 3 => rfl | 4 => rfl | (_ + 5) => by simp)⟩
theorem g63 : TI.ok Tryz.prog 63 (.st 5 [(0, 4), (1, 59), (2, 60), (3, 60), (4, 61)] (Array.mk [(.bool false), (.slice none 0 0), (.slice none 0 0), (.slice none 0 0), (.slice none 0 0)]) [1, 1, 1, 1, 1]) := ⟨fun _ => by kernel_rfl, fun _ => by kernel_rfl, fun _ => by kernel_rfl, (fun f off ft h => match f, h with | 0, h => by cases h; exact ⟨fun _ _ => by kernel_rfl, fun _ _ => by kernel_rfl⟩ | 1, h => by cases h; exact ⟨fun _ _ => by kernel_rfl, fun _ _ => by kernel_rfl⟩ | 2, h => by cases h; exact ⟨fun _ _ => by kernel_rfl, fun _ _ => by kernel_rfl⟩ | 3, h => by cases h; exact ⟨fun _ _ => by kernel_rfl, fun _ _ => by kernel_rfl⟩ | 4, h => by cases h; exact ⟨fun _ _ => by kernel_rfl, fun _ _ => by kernel_rfl⟩ | (_ + 5), h => by simp at h),
    TBuild.mk (places := #[(0, 1), (1, 1), (2, 1), (3, 1), (4, 1)]) Tryz.underlying63 (fun _ => by kernel_rfl) (fun _ => by kernel_rfl) (fun i => match i with | 0 => rfl | 1 => rfl | 2 => rfl | 3 => rfl | 4 => rfl | (_ + 5) => by simp)⟩
theorem g65 : TI.ok Tryz.prog 65 (.sc .nilFunc) := ⟨fun _ => by kernel_rfl, fun _ => by kernel_rfl, fun _ => by kernel_rfl⟩
theorem g66 : TI.ok Tryz.prog 66 (.st 4 [(0, 3), (1, 3), (2, 3), (3, 4)] (Array.mk [(.int .i64 0), (.int .i64 0), (.int .i64 0), (.bool false)]) [1, 1, 1, 1]) := ⟨fun _ => by kernel_rfl, fun _ => by kernel_rfl, fun _ => by kernel_rfl, (fun f off ft h => match f, h with | 0, h => by cases h; exact ⟨fun _ _ => by kernel_rfl, fun _ _ => by kernel_rfl⟩ | 1, h => by cases h; exact ⟨fun _ _ => by kernel_rfl, fun _ _ => by kernel_rfl⟩ | 2, h => by cases h; exact ⟨fun _ _ => by kernel_rfl, fun _ _ => by kernel_rfl⟩ | 3, h => by cases h; exact ⟨fun _ _ => by kernel_rfl, fun _ _ => by kernel_rfl⟩ | (_ + 4), h => by simp at h),
    TBuild.mk (places := #[(0, 1), (1, 1), (2, 1), (3, 1)]) Tryz.underlying66 (fun _ => by kernel_rfl) (fun _ => by kernel_rfl) (fun i => match i with | 0 => rfl | 1 => rfl | 2 => rfl | 3 => rfl | (_ + 4) => by simp)⟩
theorem g67 : TI.ok Tryz.prog 67 (.st 4 [(0, 3), (1, 3), (2, 3), (3, 4)] (Array.mk [(.int .i64 0), (.int .i64 0), (.int .i64 0), (.bool false)]) [1, 1, 1, 1]) := ⟨fun _ => by kernel_rfl, fun _ => by kernel_rfl, fun _ => by kernel_rfl, (fun f off ft h => match f, h with | 0, h => by cases h; exact ⟨fun _ _ => by kernel_rfl, fun _ _ => by kernel_rfl⟩ | 1, h => by cases h; exact ⟨fun _ _ => by kernel_rfl, fun _ _ => by kernel_rfl⟩ | 2, h => by cases h; exact ⟨fun _ _ => by kernel_rfl, fun _ _ => by kernel_rfl⟩ | 3, h => by cases h; exact ⟨fun _ _ => by kernel_rfl, fun _ _ => by kernel_rfl⟩ | (_ + 4), h => by simp at h),
    TBuild.mk (places := #[(0, 1), (1, 1), (2, 1), (3, 1)]) Tryz.underlying67 (fun _ => by kernel_rfl) (fun _ => by kernel_rfl) (fun i => match i with | 0 => rfl | 1 => rfl | 2 => rfl | 3 => rfl | (_ + 4) => by simp)⟩
theorem g68 : TI.ok Tryz.prog 68 (.sc .nilFunc) := ⟨fun _ => by kernel_rfl, fun _ => by kernel_rfl, fun _ => by kernel_rfl⟩
theorem g69 : TI.ok Tryz.prog 69 (.st 10 [(0, 3), (1, 3), (2, 9), (3, 4), (4, 4), (5, 9), (6, 9), (7, 3), (8, 3), (9, 4)] (Array.mk [(.int .i64 0), (.int .i64 0), (.string ByteArray.empty), (.bool false), (.bool false), (.string ByteArray.empty), (.string ByteArray.empty), (.int .i64 0), (.int .i64 0), (.bool false)]) [1, 1, 1, 1, 1, 1, 1, 1, 1, 1]) := ⟨fun _ => by kernel_rfl, fun _ => by kernel_rfl, fun _ => by kernel_rfl, (fun f off ft h => match f, h with | 0, h => by cases h; exact ⟨fun _ _ => by kernel_rfl, fun _ _ => by kernel_rfl⟩ | 1, h => by cases h; exact ⟨fun _ _ => by kernel_rfl, fun _ _ => by kernel_rfl⟩ | 2, h => by cases h; exact ⟨fun _ _ => by kernel_rfl, fun _ _ => by kernel_rfl⟩ | 3, h => by cases h; exact ⟨fun _ _ => by kernel_rfl, fun _ _ => by kernel_rfl⟩ | 4, h => by cases h; exact ⟨fun _ _ => by kernel_rfl, fun _ _ => by kernel_rfl⟩ | 5, h => by cases h; exact ⟨fun _ _ => by kernel_rfl, fun _ _ => by kernel_rfl⟩ | 6, h => by cases h; exact ⟨fun _ _ => by kernel_rfl, fun _ _ => by kernel_rfl⟩ | 7, h => by cases h; exact ⟨fun _ _ => by kernel_rfl, fun _ _ => by kernel_rfl⟩ | 8, h => by cases h; exact ⟨fun _ _ => by kernel_rfl, fun _ _ => by kernel_rfl⟩ | 9, h => by cases h; exact ⟨fun _ _ => by kernel_rfl, fun _ _ => by kernel_rfl⟩ | (_ + 10), h => by simp at h),
    TBuild.mk (places := #[(0, 1), (1, 1), (2, 1), (3, 1), (4, 1), (5, 1), (6, 1), (7, 1), (8, 1), (9, 1)]) Tryz.underlying69 (fun _ => by kernel_rfl) (fun _ => by kernel_rfl) (fun i => match i with | 0 => rfl | 1 => rfl | 2 => rfl | 3 => rfl | 4 => rfl | 5 => rfl | 6 => rfl | 7 => rfl | 8 => rfl | 9 => rfl | (_ + 10) => by simp)⟩
theorem g70 : TI.ok Tryz.prog 70 (.st 10 [(0, 3), (1, 3), (2, 9), (3, 4), (4, 4), (5, 9), (6, 9), (7, 3), (8, 3), (9, 4)] (Array.mk [(.int .i64 0), (.int .i64 0), (.string ByteArray.empty), (.bool false), (.bool false), (.string ByteArray.empty), (.string ByteArray.empty), (.int .i64 0), (.int .i64 0), (.bool false)]) [1, 1, 1, 1, 1, 1, 1, 1, 1, 1]) := ⟨fun _ => by kernel_rfl, fun _ => by kernel_rfl, fun _ => by kernel_rfl, (fun f off ft h => match f, h with | 0, h => by cases h; exact ⟨fun _ _ => by kernel_rfl, fun _ _ => by kernel_rfl⟩ | 1, h => by cases h; exact ⟨fun _ _ => by kernel_rfl, fun _ _ => by kernel_rfl⟩ | 2, h => by cases h; exact ⟨fun _ _ => by kernel_rfl, fun _ _ => by kernel_rfl⟩ | 3, h => by cases h; exact ⟨fun _ _ => by kernel_rfl, fun _ _ => by kernel_rfl⟩ | 4, h => by cases h; exact ⟨fun _ _ => by kernel_rfl, fun _ _ => by kernel_rfl⟩ | 5, h => by cases h; exact ⟨fun _ _ => by kernel_rfl, fun _ _ => by kernel_rfl⟩ | 6, h => by cases h; exact ⟨fun _ _ => by kernel_rfl, fun _ _ => by kernel_rfl⟩ | 7, h => by cases h; exact ⟨fun _ _ => by kernel_rfl, fun _ _ => by kernel_rfl⟩ | 8, h => by cases h; exact ⟨fun _ _ => by kernel_rfl, fun _ _ => by kernel_rfl⟩ | 9, h => by cases h; exact ⟨fun _ _ => by kernel_rfl, fun _ _ => by kernel_rfl⟩ | (_ + 10), h => by simp at h),
    TBuild.mk (places := #[(0, 1), (1, 1), (2, 1), (3, 1), (4, 1), (5, 1), (6, 1), (7, 1), (8, 1), (9, 1)]) Tryz.underlying70 (fun _ => by kernel_rfl) (fun _ => by kernel_rfl) (fun i => match i with | 0 => rfl | 1 => rfl | 2 => rfl | 3 => rfl | 4 => rfl | 5 => rfl | 6 => rfl | 7 => rfl | 8 => rfl | 9 => rfl | (_ + 10) => by simp)⟩
theorem g71 : TI.ok Tryz.prog 71 (.st 11 [(0, 3), (1, 70)] (Array.mk [(.int .i64 0), (.int .i64 0), (.int .i64 0), (.string ByteArray.empty), (.bool false), (.bool false), (.string ByteArray.empty), (.string ByteArray.empty), (.int .i64 0), (.int .i64 0), (.bool false)]) [1, 10]) := ⟨fun _ => by kernel_rfl, fun _ => by kernel_rfl, fun _ => by kernel_rfl, (fun f off ft h => match f, h with | 0, h => by cases h; exact ⟨fun _ _ => by kernel_rfl, fun _ _ => by kernel_rfl⟩ | 1, h => by cases h; exact ⟨fun _ _ => by kernel_rfl, fun _ _ => by kernel_rfl⟩ | (_ + 2), h => by simp at h),
    TBuild.mk (places := #[(0, 1), (1, 10)]) Tryz.underlying71 (fun _ => by kernel_rfl) (fun _ => by kernel_rfl) (fun i => match i with | 0 => rfl | 1 => rfl | (_ + 2) => by simp)⟩
theorem g72 : TI.ok Tryz.prog 72 (.st 11 [(0, 3), (1, 70)] (Array.mk [(.int .i64 0), (.int .i64 0), (.int .i64 0), (.string ByteArray.empty), (.bool false), (.bool false), (.string ByteArray.empty), (.string ByteArray.empty), (.int .i64 0), (.int .i64 0), (.bool false)]) [1, 10]) := ⟨fun _ => by kernel_rfl, fun _ => by kernel_rfl, fun _ => by kernel_rfl, (fun f off ft h => match f, h with | 0, h => by cases h; exact ⟨fun _ _ => by kernel_rfl, fun _ _ => by kernel_rfl⟩ | 1, h => by cases h; exact ⟨fun _ _ => by kernel_rfl, fun _ _ => by kernel_rfl⟩ | (_ + 2), h => by simp at h),
    TBuild.mk (places := #[(0, 1), (1, 10)]) Tryz.underlying72 (fun _ => by kernel_rfl) (fun _ => by kernel_rfl) (fun i => match i with | 0 => rfl | 1 => rfl | (_ + 2) => by simp)⟩
theorem g73 : TI.ok Tryz.prog 73 (.sc .nilFunc) := ⟨fun _ => by kernel_rfl, fun _ => by kernel_rfl, fun _ => by kernel_rfl⟩
theorem g74 : TI.ok Tryz.prog 74 (.sc .nilFunc) := ⟨fun _ => by kernel_rfl, fun _ => by kernel_rfl, fun _ => by kernel_rfl⟩
theorem g75 : TI.ok Tryz.prog 75 (.ar 60 60 3 1 (Array.mk [(.int .i64 0), (.int .i64 0), (.int .i64 0), (.int .i64 0), (.int .i64 0), (.int .i64 0), (.int .i64 0), (.int .i64 0), (.int .i64 0), (.int .i64 0), (.int .i64 0), (.int .i64 0), (.int .i64 0), (.int .i64 0), (.int .i64 0), (.int .i64 0), (.int .i64 0), (.int .i64 0), (.int .i64 0), (.int .i64 0), (.int .i64 0), (.int .i64 0), (.int .i64 0), (.int .i64 0), (.int .i64 0), (.int .i64 0), (.int .i64 0), (.int .i64 0), (.int .i64 0), (.int .i64 0), (.int .i64 0), (.int .i64 0), (.int .i64 0), (.int .i64 0), (.int .i64 0), (.int .i64 0), (.int .i64 0), (.int .i64 0), (.int .i64 0), (.int .i64 0), (.int .i64 0), (.int .i64 0), (.int .i64 0), (.int .i64 0), (.int .i64 0), (.int .i64 0), (.int .i64 0), (.int .i64 0), (.int .i64 0), (.int .i64 0), (.int .i64 0), (.int .i64 0), (.int .i64 0), (.int .i64 0), (.int .i64 0), (.int .i64 0), (.int .i64 0), (.int .i64 0), (.int .i64 0), (.int .i64 0)])) := ⟨fun _ => by kernel_rfl, fun _ => by kernel_rfl, fun _ => by kernel_rfl, (by unfold TArray; kernel_rfl), fun _ => by kernel_rfl⟩
theorem g76 : TI.ok Tryz.prog 76 (.sc .nilFunc) := ⟨fun _ => by kernel_rfl, fun _ => by kernel_rfl, fun _ => by kernel_rfl⟩
theorem g77 : TI.ok Tryz.prog 77 (.sc .nilFunc) := ⟨fun _ => by kernel_rfl, fun _ => by kernel_rfl, fun _ => by kernel_rfl⟩
theorem g78 : TI.ok Tryz.prog 78 (.sc .nilFunc) := ⟨fun _ => by kernel_rfl, fun _ => by kernel_rfl, fun _ => by kernel_rfl⟩
theorem g79 : TI.ok Tryz.prog 79 (.sc .nilFunc) := ⟨fun _ => by kernel_rfl, fun _ => by kernel_rfl, fun _ => by kernel_rfl⟩
theorem g81 : TI.ok Tryz.prog 81 (.sc .nilFunc) := ⟨fun _ => by kernel_rfl, fun _ => by kernel_rfl, fun _ => by kernel_rfl⟩
theorem g82 : TI.ok Tryz.prog 82 (.sc .nilFunc) := ⟨fun _ => by kernel_rfl, fun _ => by kernel_rfl, fun _ => by kernel_rfl⟩
theorem g83 : TI.ok Tryz.prog 83 (.sc .nilFunc) := ⟨fun _ => by kernel_rfl, fun _ => by kernel_rfl, fun _ => by kernel_rfl⟩
theorem g85 : TI.ok Tryz.prog 85 (.sc .nilFunc) := ⟨fun _ => by kernel_rfl, fun _ => by kernel_rfl, fun _ => by kernel_rfl⟩
theorem g86 : TI.ok Tryz.prog 86 (.sc .nilFunc) := ⟨fun _ => by kernel_rfl, fun _ => by kernel_rfl, fun _ => by kernel_rfl⟩
theorem g87 : TI.ok Tryz.prog 87 (.sc .nilFunc) := ⟨fun _ => by kernel_rfl, fun _ => by kernel_rfl, fun _ => by kernel_rfl⟩
theorem g88 : TI.ok Tryz.prog 88 (.st 2 [(0, 9), (1, 3)] (Array.mk [(.string ByteArray.empty), (.int .i64 0)]) [1, 1]) := ⟨fun _ => by kernel_rfl, fun _ => by kernel_rfl, fun _ => by kernel_rfl, (fun f off ft h => match f, h with | 0, h => by cases h; exact ⟨fun _ _ => by kernel_rfl, fun _ _ => by kernel_rfl⟩ | 1, h => by cases h; exact ⟨fun _ _ => by kernel_rfl, fun _ _ => by kernel_rfl⟩ | (_ + 2), h => by simp at h),
    TBuild.mk (places := #[(0, 1), (1, 1)]) Tryz.underlying88 (fun _ => by kernel_rfl) (fun _ => by kernel_rfl) (fun i => match i with | 0 => rfl | 1 => rfl | (_ + 2) => by simp)⟩
theorem g89 : TI.ok Tryz.prog 89 (.st 2 [(0, 9), (1, 3)] (Array.mk [(.string ByteArray.empty), (.int .i64 0)]) [1, 1]) := ⟨fun _ => by kernel_rfl, fun _ => by kernel_rfl, fun _ => by kernel_rfl, (fun f off ft h => match f, h with | 0, h => by cases h; exact ⟨fun _ _ => by kernel_rfl, fun _ _ => by kernel_rfl⟩ | 1, h => by cases h; exact ⟨fun _ _ => by kernel_rfl, fun _ _ => by kernel_rfl⟩ | (_ + 2), h => by simp at h),
    TBuild.mk (places := #[(0, 1), (1, 1)]) Tryz.underlying89 (fun _ => by kernel_rfl) (fun _ => by kernel_rfl) (fun i => match i with | 0 => rfl | 1 => rfl | (_ + 2) => by simp)⟩
theorem g90 : TI.ok Tryz.prog 90 (.st 2 [(0, 24)] (Array.mk [(.slice none 0 0), (.int .i64 0)]) [2]) := ⟨fun _ => by kernel_rfl, fun _ => by kernel_rfl, fun _ => by kernel_rfl, (fun f off ft h => match f, h with | 0, h => by cases h; exact ⟨fun _ _ => by kernel_rfl, fun _ _ => by kernel_rfl⟩ | (_ + 1), h => by simp at h),
    TBuild.mk (places := #[(0, 2)]) Tryz.underlying90 (fun _ => by kernel_rfl) (fun _ => by kernel_rfl) (fun i => match i with | 0 => rfl | (_ + 1) => by simp)⟩
theorem g91 : TI.ok Tryz.prog 91 (.st 2 [(0, 24)] (Array.mk [(.slice none 0 0), (.int .i64 0)]) [2]) := ⟨fun _ => by kernel_rfl, fun _ => by kernel_rfl, fun _ => by kernel_rfl, (fun f off ft h => match f, h with | 0, h => by cases h; exact ⟨fun _ _ => by kernel_rfl, fun _ _ => by kernel_rfl⟩ | (_ + 1), h => by simp at h),
    TBuild.mk (places := #[(0, 2)]) Tryz.underlying91 (fun _ => by kernel_rfl) (fun _ => by kernel_rfl) (fun i => match i with | 0 => rfl | (_ + 1) => by simp)⟩
theorem g92 : TI.ok Tryz.prog 92 (.sc .nilFunc) := ⟨fun _ => by kernel_rfl, fun _ => by kernel_rfl, fun _ => by kernel_rfl⟩
theorem g93 : TI.ok Tryz.prog 93 (.sc .nilFunc) := ⟨fun _ => by kernel_rfl, fun _ => by kernel_rfl, fun _ => by kernel_rfl⟩
theorem g94 : TI.ok Tryz.prog 94 (.sc .nilFunc) := ⟨fun _ => by kernel_rfl, fun _ => by kernel_rfl, fun _ => by kernel_rfl⟩
theorem g95 : TI.ok Tryz.prog 95 (.sc .nilFunc) := ⟨fun _ => by kernel_rfl, fun _ => by kernel_rfl, fun _ => by kernel_rfl⟩
theorem g96 : TI.ok Tryz.prog 96 (.sc .nilFunc) := ⟨fun _ => by kernel_rfl, fun _ => by kernel_rfl, fun _ => by kernel_rfl⟩
theorem g97 : TI.ok Tryz.prog 97 (.sc .nilFunc) := ⟨fun _ => by kernel_rfl, fun _ => by kernel_rfl, fun _ => by kernel_rfl⟩
theorem g98 : TI.ok Tryz.prog 98 (.sc .nilFunc) := ⟨fun _ => by kernel_rfl, fun _ => by kernel_rfl, fun _ => by kernel_rfl⟩
theorem g99 : TI.ok Tryz.prog 99 (.sc .nilFunc) := ⟨fun _ => by kernel_rfl, fun _ => by kernel_rfl, fun _ => by kernel_rfl⟩
theorem g100 : TI.ok Tryz.prog 100 (.st 2 [(0, 3), (1, 60)] (Array.mk [(.int .i64 0), (.slice none 0 0)]) [1, 1]) := ⟨fun _ => by kernel_rfl, fun _ => by kernel_rfl, fun _ => by kernel_rfl, (fun f off ft h => match f, h with | 0, h => by cases h; exact ⟨fun _ _ => by kernel_rfl, fun _ _ => by kernel_rfl⟩ | 1, h => by cases h; exact ⟨fun _ _ => by kernel_rfl, fun _ _ => by kernel_rfl⟩ | (_ + 2), h => by simp at h),
    TBuild.mk (places := #[(0, 1), (1, 1)]) Tryz.underlying100 (fun _ => by kernel_rfl) (fun _ => by kernel_rfl) (fun i => match i with | 0 => rfl | 1 => rfl | (_ + 2) => by simp)⟩
theorem g101 : TI.ok Tryz.prog 101 (.st 2 [(0, 3), (1, 60)] (Array.mk [(.int .i64 0), (.slice none 0 0)]) [1, 1]) := ⟨fun _ => by kernel_rfl, fun _ => by kernel_rfl, fun _ => by kernel_rfl, (fun f off ft h => match f, h with | 0, h => by cases h; exact ⟨fun _ _ => by kernel_rfl, fun _ _ => by kernel_rfl⟩ | 1, h => by cases h; exact ⟨fun _ _ => by kernel_rfl, fun _ _ => by kernel_rfl⟩ | (_ + 2), h => by simp at h),
    TBuild.mk (places := #[(0, 1), (1, 1)]) Tryz.underlying101 (fun _ => by kernel_rfl) (fun _ => by kernel_rfl) (fun i => match i with | 0 => rfl | 1 => rfl | (_ + 2) => by simp)⟩
theorem g102 : TI.ok Tryz.prog 102 (.sc (.pointer none)) := ⟨fun _ => by kernel_rfl, fun _ => by kernel_rfl, fun _ => by kernel_rfl⟩
theorem g104 : TI.ok Tryz.prog 104 (.sc .nilFunc) := ⟨fun _ => by kernel_rfl, fun _ => by kernel_rfl, fun _ => by kernel_rfl⟩
theorem g105 : TI.ok Tryz.prog 105 (.st 9 [(0, 24), (2, 47), (3, 28), (7, 48), (8, 50)] (Array.mk [(.slice none 0 0), (.int .i64 0), (.slice none 0 0), (.slice none 0 0), (.slice none 0 0), (.int .i64 0), (.bool false), (.slice none 0 0), (.slice none 0 0)]) [2, 1, 4, 1, 1]) := ⟨fun _ => by kernel_rfl, fun _ => by kernel_rfl, fun _ => by kernel_rfl, (fun f off ft h => match f, h with | 0, h => by cases h; exact ⟨fun _ _ => by kernel_rfl, fun _ _ => by kernel_rfl⟩ | 1, h => by cases h; exact ⟨fun _ _ => by kernel_rfl, fun _ _ => by kernel_rfl⟩ | 2, h => by cases h; exact ⟨fun _ _ => by kernel_rfl, fun _ _ => by kernel_rfl⟩ | 3, h => by cases h; exact ⟨fun _ _ => by kernel_rfl, fun _ _ => by kernel_rfl⟩ | 4, h => by cases h; exact ⟨fun _ _ => by kernel_rfl, fun _ _ => by kernel_rfl⟩ | (_ + 5), h => by simp at h),
    TBuild.mk (places := #[(0, 2), (2, 1), (3, 4), (7, 1), (8, 1)]) Tryz.underlying105 (fun _ => by kernel_rfl) (fun _ => by kernel_rfl) (fun i => match i with | 0 => rfl | 1 => rfl | 2 => rfl | 3 => rfl | 4 => rfl | (_ + 5) => by simp)⟩
theorem g106 : TI.ok Tryz.prog 106 (.st 9 [(0, 24), (2, 47), (3, 28), (7, 48), (8, 50)] (Array.mk [(.slice none 0 0), (.int .i64 0), (.slice none 0 0), (.slice none 0 0), (.slice none 0 0), (.int .i64 0), (.bool false), (.slice none 0 0), (.slice none 0 0)]) [2, 1, 4, 1, 1]) := ⟨fun _ => by kernel_rfl, fun _ => by kernel_rfl, fun _ => by kernel_rfl, (fun f off ft h => match f, h with | 0, h => by cases h; exact ⟨fun _ _ => by kernel_rfl, fun _ _ => by kernel_rfl⟩ | 1, h => by cases h; exact ⟨fun _ _ => by kernel_rfl, fun _ _ => by kernel_rfl⟩ | 2, h => by cases h; exact ⟨fun _ _ => by kernel_rfl, fun _ _ => by kernel_rfl⟩ | 3, h => by cases h; exact ⟨fun _ _ => by kernel_rfl, fun _ _ => by kernel_rfl⟩ | 4, h => by cases h; exact ⟨fun _ _ => by kernel_rfl, fun _ _ => by kernel_rfl⟩ | (_ + 5), h => by simp at h),
    TBuild.mk (places := #[(0, 2), (2, 1), (3, 4), (7, 1), (8, 1)]) Tryz.underlying106 (fun _ => by kernel_rfl) (fun _ => by kernel_rfl) (fun i => match i with | 0 => rfl | 1 => rfl | 2 => rfl | 3 => rfl | 4 => rfl | (_ + 5) => by simp)⟩
theorem g107 : TI.ok Tryz.prog 107 (.sc .nilFunc) := ⟨fun _ => by kernel_rfl, fun _ => by kernel_rfl, fun _ => by kernel_rfl⟩
theorem g108 : TI.ok Tryz.prog 108 (.sc (.pointer none)) := ⟨fun _ => by kernel_rfl, fun _ => by kernel_rfl, fun _ => by kernel_rfl⟩
theorem g109 : TI.ok Tryz.prog 109 (.sc .nilFunc) := ⟨fun _ => by kernel_rfl, fun _ => by kernel_rfl, fun _ => by kernel_rfl⟩
theorem g110 : TI.ok Tryz.prog 110 (.sc .nilFunc) := ⟨fun _ => by kernel_rfl, fun _ => by kernel_rfl, fun _ => by kernel_rfl⟩
theorem g112 : TI.ok Tryz.prog 112 (.sc (.map none)) := ⟨fun _ => by kernel_rfl, fun _ => by kernel_rfl, fun _ => by kernel_rfl⟩
theorem g113 : TI.ok Tryz.prog 113 (.sc .nilFunc) := ⟨fun _ => by kernel_rfl, fun _ => by kernel_rfl, fun _ => by kernel_rfl⟩
theorem g114 : TI.ok Tryz.prog 114 (.sc (.map none)) := ⟨fun _ => by kernel_rfl, fun _ => by kernel_rfl, fun _ => by kernel_rfl⟩
theorem g115 : TI.ok Tryz.prog 115 (.st 3 [(0, 24), (2, 114)] (Array.mk [(.slice none 0 0), (.int .i64 0), (.map none)]) [2, 1]) := ⟨fun _ => by kernel_rfl, fun _ => by kernel_rfl, fun _ => by kernel_rfl, (fun f off ft h => match f, h with | 0, h => by cases h; exact ⟨fun _ _ => by kernel_rfl, fun _ _ => by kernel_rfl⟩ | 1, h => by cases h; exact ⟨fun _ _ => by kernel_rfl, fun _ _ => by kernel_rfl⟩ | (_ + 2), h => by simp at h),
    TBuild.mk (places := #[(0, 2), (2, 1)]) Tryz.underlying115 (fun _ => by kernel_rfl) (fun _ => by kernel_rfl) (fun i => match i with | 0 => rfl | 1 => rfl | (_ + 2) => by simp)⟩
theorem g116 : TI.ok Tryz.prog 116 (.st 3 [(0, 24), (2, 114)] (Array.mk [(.slice none 0 0), (.int .i64 0), (.map none)]) [2, 1]) := ⟨fun _ => by kernel_rfl, fun _ => by kernel_rfl, fun _ => by kernel_rfl, (fun f off ft h => match f, h with | 0, h => by cases h; exact ⟨fun _ _ => by kernel_rfl, fun _ _ => by kernel_rfl⟩ | 1, h => by cases h; exact ⟨fun _ _ => by kernel_rfl, fun _ _ => by kernel_rfl⟩ | (_ + 2), h => by simp at h),
    TBuild.mk (places := #[(0, 2), (2, 1)]) Tryz.underlying116 (fun _ => by kernel_rfl) (fun _ => by kernel_rfl) (fun i => match i with | 0 => rfl | 1 => rfl | (_ + 2) => by simp)⟩
theorem g117 : TI.ok Tryz.prog 117 (.sc .nilFunc) := ⟨fun _ => by kernel_rfl, fun _ => by kernel_rfl, fun _ => by kernel_rfl⟩
theorem g118 : TI.ok Tryz.prog 118 (.sc .nilFunc) := ⟨fun _ => by kernel_rfl, fun _ => by kernel_rfl, fun _ => by kernel_rfl⟩
theorem g119 : TI.ok Tryz.prog 119 (.sc .nilFunc) := ⟨fun _ => by kernel_rfl, fun _ => by kernel_rfl, fun _ => by kernel_rfl⟩
theorem g120 : TI.ok Tryz.prog 120 (.sl 201 9 88) := ⟨fun _ => by kernel_rfl, fun _ => by kernel_rfl, fun _ => by kernel_rfl, fun _ => by kernel_rfl, (Tryz.prog.info? 201).getD default, (.agg #[(.int .i64 0), (.int .i64 0), (.int .i64 0), (.int .i64 0), (.string ByteArray.empty), (.bool false), (.bool false), (.string ByteArray.empty), (.string ByteArray.empty)]), ⟨by kernel_rfl, by kernel_rfl, by kernel_rfl, by kernel_rfl, by kernel_rfl, by kernel_rfl⟩⟩
theorem g122 : TI.ok Tryz.prog 122 (.sc .nilFunc) := ⟨fun _ => by kernel_rfl, fun _ => by kernel_rfl, fun _ => by kernel_rfl⟩
theorem g123 : TI.ok Tryz.prog 123 (.sc .nilFunc) := ⟨fun _ => by kernel_rfl, fun _ => by kernel_rfl, fun _ => by kernel_rfl⟩
theorem g124 : TI.ok Tryz.prog 124 (.sc .nilFunc) := ⟨fun _ => by kernel_rfl, fun _ => by kernel_rfl, fun _ => by kernel_rfl⟩
theorem g125 : TI.ok Tryz.prog 125 (.sc .nilFunc) := ⟨fun _ => by kernel_rfl, fun _ => by kernel_rfl, fun _ => by kernel_rfl⟩
theorem g126 : TI.ok Tryz.prog 126 (.sc .nilFunc) := ⟨fun _ => by kernel_rfl, fun _ => by kernel_rfl, fun _ => by kernel_rfl⟩
theorem g128 : TI.ok Tryz.prog 128 (.sc .nilFunc) := ⟨fun _ => by kernel_rfl, fun _ => by kernel_rfl, fun _ => by kernel_rfl⟩
theorem g129 : TI.ok Tryz.prog 129 (.st 2 [(0, 9), (1, 9)] (Array.mk [(.string ByteArray.empty), (.string ByteArray.empty)]) [1, 1]) := ⟨fun _ => by kernel_rfl, fun _ => by kernel_rfl, fun _ => by kernel_rfl, (fun f off ft h => match f, h with | 0, h => by cases h; exact ⟨fun _ _ => by kernel_rfl, fun _ _ => by kernel_rfl⟩ | 1, h => by cases h; exact ⟨fun _ _ => by kernel_rfl, fun _ _ => by kernel_rfl⟩ | (_ + 2), h => by simp at h),
    TBuild.mk (places := #[(0, 1), (1, 1)]) Tryz.underlying129 (fun _ => by kernel_rfl) (fun _ => by kernel_rfl) (fun i => match i with | 0 => rfl | 1 => rfl | (_ + 2) => by simp)⟩
theorem g130 : TI.ok Tryz.prog 130 (.st 2 [(0, 9), (1, 9)] (Array.mk [(.string ByteArray.empty), (.string ByteArray.empty)]) [1, 1]) := ⟨fun _ => by kernel_rfl, fun _ => by kernel_rfl, fun _ => by kernel_rfl, (fun f off ft h => match f, h with | 0, h => by cases h; exact ⟨fun _ _ => by kernel_rfl, fun _ _ => by kernel_rfl⟩ | 1, h => by cases h; exact ⟨fun _ _ => by kernel_rfl, fun _ _ => by kernel_rfl⟩ | (_ + 2), h => by simp at h),
    TBuild.mk (places := #[(0, 1), (1, 1)]) Tryz.underlying130 (fun _ => by kernel_rfl) (fun _ => by kernel_rfl) (fun i => match i with | 0 => rfl | 1 => rfl | (_ + 2) => by simp)⟩
theorem g132 : TI.ok Tryz.prog 132 (.sc .nilFunc) := ⟨fun _ => by kernel_rfl, fun _ => by kernel_rfl, fun _ => by kernel_rfl⟩
theorem g133 : TI.ok Tryz.prog 133 (.sc .nilFunc) := ⟨fun _ => by kernel_rfl, fun _ => by kernel_rfl, fun _ => by kernel_rfl⟩
theorem g134 : TI.ok Tryz.prog 134 (.sc (.map none)) := ⟨fun _ => by kernel_rfl, fun _ => by kernel_rfl, fun _ => by kernel_rfl⟩
theorem g135 : TI.ok Tryz.prog 135 (.sc (.map none)) := ⟨fun _ => by kernel_rfl, fun _ => by kernel_rfl, fun _ => by kernel_rfl⟩
theorem g136 : TI.ok Tryz.prog 136 (.st 2 [(0, 134), (1, 135)] (Array.mk [(.map none), (.map none)]) [1, 1]) := ⟨fun _ => by kernel_rfl, fun _ => by kernel_rfl, fun _ => by kernel_rfl, (fun f off ft h => match f, h with | 0, h => by cases h; exact ⟨fun _ _ => by kernel_rfl, fun _ _ => by kernel_rfl⟩ | 1, h => by cases h; exact ⟨fun _ _ => by kernel_rfl, fun _ _ => by kernel_rfl⟩ | (_ + 2), h => by simp at h),
    TBuild.mk (places := #[(0, 1), (1, 1)]) Tryz.underlying136 (fun _ => by kernel_rfl) (fun _ => by kernel_rfl) (fun i => match i with | 0 => rfl | 1 => rfl | (_ + 2) => by simp)⟩
theorem g137 : TI.ok Tryz.prog 137 (.st 2 [(0, 134), (1, 135)] (Array.mk [(.map none), (.map none)]) [1, 1]) := ⟨fun _ => by kernel_rfl, fun _ => by kernel_rfl, fun _ => by kernel_rfl, (fun f off ft h => match f, h with | 0, h => by cases h; exact ⟨fun _ _ => by kernel_rfl, fun _ _ => by kernel_rfl⟩ | 1, h => by cases h; exact ⟨fun _ _ => by kernel_rfl, fun _ _ => by kernel_rfl⟩ | (_ + 2), h => by simp at h),
    TBuild.mk (places := #[(0, 1), (1, 1)]) Tryz.underlying137 (fun _ => by kernel_rfl) (fun _ => by kernel_rfl) (fun i => match i with | 0 => rfl | 1 => rfl | (_ + 2) => by simp)⟩
theorem g139 : TI.ok Tryz.prog 139 (.sc .nilFunc) := ⟨fun _ => by kernel_rfl, fun _ => by kernel_rfl, fun _ => by kernel_rfl⟩
theorem g141 : TI.ok Tryz.prog 141 (.sc .nilFunc) := ⟨fun _ => by kernel_rfl, fun _ => by kernel_rfl, fun _ => by kernel_rfl⟩
theorem g142 : TI.ok Tryz.prog 142 (.sc .nilFunc) := ⟨fun _ => by kernel_rfl, fun _ => by kernel_rfl, fun _ => by kernel_rfl⟩
theorem g143 : TI.ok Tryz.prog 143 (.sc .nilFunc) := ⟨fun _ => by kernel_rfl, fun _ => by kernel_rfl, fun _ => by kernel_rfl⟩
theorem g144 : TI.ok Tryz.prog 144 (.sc .nilFunc) := ⟨fun _ => by kernel_rfl, fun _ => by kernel_rfl, fun _ => by kernel_rfl⟩
theorem g145 : TI.ok Tryz.prog 145 (.sc .nilFunc) := ⟨fun _ => by kernel_rfl, fun _ => by kernel_rfl, fun _ => by kernel_rfl⟩
theorem g146 : TI.ok Tryz.prog 146 (.sc .nilFunc) := ⟨fun _ => by kernel_rfl, fun _ => by kernel_rfl, fun _ => by kernel_rfl⟩
theorem g147 : TI.ok Tryz.prog 147 (.sc .nilFunc) := ⟨fun _ => by kernel_rfl, fun _ => by kernel_rfl, fun _ => by kernel_rfl⟩
theorem g148 : TI.ok Tryz.prog 148 (.sc .nilFunc) := ⟨fun _ => by kernel_rfl, fun _ => by kernel_rfl, fun _ => by kernel_rfl⟩
theorem g149 : TI.ok Tryz.prog 149 (.sc .nilFunc) := ⟨fun _ => by kernel_rfl, fun _ => by kernel_rfl, fun _ => by kernel_rfl⟩
theorem g150 : TI.ok Tryz.prog 150 (.sc .nilFunc) := ⟨fun _ => by kernel_rfl, fun _ => by kernel_rfl, fun _ => by kernel_rfl⟩
theorem g151 : TI.ok Tryz.prog 151 (.sc .nilFunc) := ⟨fun _ => by kernel_rfl, fun _ => by kernel_rfl, fun _ => by kernel_rfl⟩
theorem g152 : TI.ok Tryz.prog 152 (.sc .nilFunc) := ⟨fun _ => by kernel_rfl, fun _ => by kernel_rfl, fun _ => by kernel_rfl⟩
theorem g153 : TI.ok Tryz.prog 153 (.sc .nilFunc) := ⟨fun _ => by kernel_rfl, fun _ => by kernel_rfl, fun _ => by kernel_rfl⟩
theorem g154 : TI.ok Tryz.prog 154 (.sc .nilFunc) := ⟨fun _ => by kernel_rfl, fun _ => by kernel_rfl, fun _ => by kernel_rfl⟩
theorem g155 : TI.ok Tryz.prog 155 (.sc .nilFunc) := ⟨fun _ => by kernel_rfl, fun _ => by kernel_rfl, fun _ => by kernel_rfl⟩
theorem g156 : TI.ok Tryz.prog 156 (.sc .nilFunc) := ⟨fun _ => by kernel_rfl, fun _ => by kernel_rfl, fun _ => by kernel_rfl⟩
theorem g157 : TI.ok Tryz.prog 157 (.sc .nilFunc) := ⟨fun _ => by kernel_rfl, fun _ => by kernel_rfl, fun _ => by kernel_rfl⟩
theorem g158 : TI.ok Tryz.prog 158 (.sc .nilIface) := ⟨fun _ => by kernel_rfl, fun _ => by kernel_rfl, fun _ => by kernel_rfl⟩
theorem g159 : TI.ok Tryz.prog 159 (.sc .nilIface) := ⟨fun _ => by kernel_rfl, fun _ => by kernel_rfl, fun _ => by kernel_rfl⟩
theorem g160 : TI.ok Tryz.prog 160 (.sc .nilFunc) := ⟨fun _ => by kernel_rfl, fun _ => by kernel_rfl, fun _ => by kernel_rfl⟩
theorem g161 : TI.ok Tryz.prog 161 (.sc .nilFunc) := ⟨fun _ => by kernel_rfl, fun _ => by kernel_rfl, fun _ => by kernel_rfl⟩
theorem g162 : TI.ok Tryz.prog 162 (.sc (.pointer none)) := ⟨fun _ => by kernel_rfl, fun _ => by kernel_rfl, fun _ => by kernel_rfl⟩
theorem g163 : TI.ok Tryz.prog 163 (.sc .nilFunc) := ⟨fun _ => by kernel_rfl, fun _ => by kernel_rfl, fun _ => by kernel_rfl⟩
theorem g164 : TI.ok Tryz.prog 164 (.sc .nilFunc) := ⟨fun _ => by kernel_rfl, fun _ => by kernel_rfl, fun _ => by kernel_rfl⟩
theorem g165 : TI.ok Tryz.prog 165 (.sc .nilFunc) := ⟨fun _ => by kernel_rfl, fun _ => by kernel_rfl, fun _ => by kernel_rfl⟩
theorem g166 : TI.ok Tryz.prog 166 (.sc .nilFunc) := ⟨fun _ => by kernel_rfl, fun _ => by kernel_rfl, fun _ => by kernel_rfl⟩
theorem g167 : TI.ok Tryz.prog 167 (.sc .nilFunc) := ⟨fun _ => by kernel_rfl, fun _ => by kernel_rfl, fun _ => by kernel_rfl⟩
theorem g169 : TI.ok Tryz.prog 169 (.sc .nilFunc) := ⟨fun _ => by kernel_rfl, fun _ => by kernel_rfl, fun _ => by kernel_rfl⟩
theorem g170 : TI.ok Tryz.prog 170 (.sc .nilFunc) := ⟨fun _ => by kernel_rfl, fun _ => by kernel_rfl, fun _ => by kernel_rfl⟩
theorem g171 : TI.ok Tryz.prog 171 (.sc (.pointer none)) := ⟨fun _ => by kernel_rfl, fun _ => by kernel_rfl, fun _ => by kernel_rfl⟩
theorem g172 : TI.ok Tryz.prog 172 (.sc .nilFunc) := ⟨fun _ => by kernel_rfl, fun _ => by kernel_rfl, fun _ => by kernel_rfl⟩
theorem g173 : TI.ok Tryz.prog 173 (.st 5 [(0, 24), (2, 3), (3, 9), (4, 4)] (Array.mk [(.slice none 0 0), (.int .i64 0), (.int .i64 0), (.string ByteArray.empty), (.bool false)]) [2, 1, 1, 1]) := ⟨fun _ => by kernel_rfl, fun _ => by kernel_rfl, fun _ => by kernel_rfl, (fun f off ft h => match f, h with | 0, h => by cases h; exact ⟨fun _ _ => by kernel_rfl, fun _ _ => by kernel_rfl⟩ | 1, h => by cases h; exact ⟨fun _ _ => by kernel_rfl, fun _ _ => by kernel_rfl⟩ | 2, h => by cases h; exact ⟨fun _ _ => by kernel_rfl, fun _ _ => by kernel_rfl⟩ | 3, h => by cases h; exact ⟨fun _ _ => by kernel_rfl, fun _ _ => by kernel_rfl⟩ | (_ + 4), h => by simp at h),
    TBuild.mk (places := #[(0, 2), (2, 1), (3, 1), (4, 1)]) Tryz.underlying173 (fun _ => by kernel_rfl) (fun _ => by kernel_rfl) (fun i => match i with | 0 => rfl | 1 => rfl | 2 => rfl | 3 => rfl | (_ + 4) => by simp)⟩
theorem g174 : TI.ok Tryz.prog 174 (.st 5 [(0, 24), (2, 3), (3, 9), (4, 4)] (Array.mk [(.slice none 0 0), (.int .i64 0), (.int .i64 0), (.string ByteArray.empty), (.bool false)]) [2, 1, 1, 1]) := ⟨fun _ => by kernel_rfl, fun _ => by kernel_rfl, fun _ => by kernel_rfl, (fun f off ft h => match f, h with | 0, h => by cases h; exact ⟨fun _ _ => by kernel_rfl, fun _ _ => by kernel_rfl⟩ | 1, h => by cases h; exact ⟨fun _ _ => by kernel_rfl, fun _ _ => by kernel_rfl⟩ | 2, h => by cases h; exact ⟨fun _ _ => by kernel_rfl, fun _ _ => by kernel_rfl⟩ | 3, h => by cases h; exact ⟨fun _ _ => by kernel_rfl, fun _ _ => by kernel_rfl⟩ | (_ + 4), h => by simp at h),
    TBuild.mk (places := #[(0, 2), (2, 1), (3, 1), (4, 1)]) Tryz.underlying174 (fun _ => by kernel_rfl) (fun _ => by kernel_rfl) (fun i => match i with | 0 => rfl | 1 => rfl | 2 => rfl | 3 => rfl | (_ + 4) => by simp)⟩
theorem g175 : TI.ok Tryz.prog 175 (.sc .nilFunc) := ⟨fun _ => by kernel_rfl, fun _ => by kernel_rfl, fun _ => by kernel_rfl⟩
theorem g176 : TI.ok Tryz.prog 176 (.sc .nilFunc) := ⟨fun _ => by kernel_rfl, fun _ => by kernel_rfl, fun _ => by kernel_rfl⟩
theorem g177 : TI.ok Tryz.prog 177 (.sc .nilFunc) := ⟨fun _ => by kernel_rfl, fun _ => by kernel_rfl, fun _ => by kernel_rfl⟩
theorem g178 : TI.ok Tryz.prog 178 (.sc .nilFunc) := ⟨fun _ => by kernel_rfl, fun _ => by kernel_rfl, fun _ => by kernel_rfl⟩
theorem g179 : TI.ok Tryz.prog 179 (.sc .nilFunc) := ⟨fun _ => by kernel_rfl, fun _ => by kernel_rfl, fun _ => by kernel_rfl⟩
theorem g180 : TI.ok Tryz.prog 180 (.sc .nilFunc) := ⟨fun _ => by kernel_rfl, fun _ => by kernel_rfl, fun _ => by kernel_rfl⟩
theorem g181 : TI.ok Tryz.prog 181 (.sc .nilFunc) := ⟨fun _ => by kernel_rfl, fun _ => by kernel_rfl, fun _ => by kernel_rfl⟩
theorem g182 : TI.ok Tryz.prog 182 (.sl 5 1 1) := ⟨fun _ => by kernel_rfl, fun _ => by kernel_rfl, fun _ => by kernel_rfl, fun _ => by kernel_rfl, (Tryz.prog.info? 5).getD default, (.int .u8 0), ⟨by kernel_rfl, by kernel_rfl, by kernel_rfl, by kernel_rfl, by kernel_rfl, by kernel_rfl⟩⟩
theorem g183 : TI.ok Tryz.prog 183 (.sc .nilFunc) := ⟨fun _ => by kernel_rfl, fun _ => by kernel_rfl, fun _ => by kernel_rfl⟩
theorem g185 : TI.ok Tryz.prog 185 (.sc .nilFunc) := ⟨fun _ => by kernel_rfl, fun _ => by kernel_rfl, fun _ => by kernel_rfl⟩
theorem g186 : TI.ok Tryz.prog 186 (.sc .nilFunc) := ⟨fun _ => by kernel_rfl, fun _ => by kernel_rfl, fun _ => by kernel_rfl⟩
theorem g187 : TI.ok Tryz.prog 187 (.st 3 [(0, 24), (2, 120)] (Array.mk [(.slice none 0 0), (.int .i64 0), (.slice none 0 0)]) [2, 1]) := ⟨fun _ => by kernel_rfl, fun _ => by kernel_rfl, fun _ => by kernel_rfl, (fun f off ft h => match f, h with | 0, h => by cases h; exact ⟨fun _ _ => by kernel_rfl, fun _ _ => by kernel_rfl⟩ | 1, h => by cases h; exact ⟨fun _ _ => by kernel_rfl, fun _ _ => by kernel_rfl⟩ | (_ + 2), h => by simp at h),
    TBuild.mk (places := #[(0, 2), (2, 1)]) Tryz.underlying187 (fun _ => by kernel_rfl) (fun _ => by kernel_rfl) (fun i => match i with | 0 => rfl | 1 => rfl | (_ + 2) => by simp)⟩
theorem g188 : TI.ok Tryz.prog 188 (.st 3 [(0, 24), (2, 120)] (Array.mk [(.slice none 0 0), (.int .i64 0), (.slice none 0 0)]) [2, 1]) := ⟨fun _ => by kernel_rfl, fun _ => by kernel_rfl, fun _ => by kernel_rfl, (fun f off ft h => match f, h with | 0, h => by cases h; exact ⟨fun _ _ => by kernel_rfl, fun _ _ => by kernel_rfl⟩ | 1, h => by cases h; exact ⟨fun _ _ => by kernel_rfl, fun _ _ => by kernel_rfl⟩ | (_ + 2), h => by simp at h),
    TBuild.mk (places := #[(0, 2), (2, 1)]) Tryz.underlying188 (fun _ => by kernel_rfl) (fun _ => by kernel_rfl) (fun i => match i with | 0 => rfl | 1 => rfl | (_ + 2) => by simp)⟩
theorem g189 : TI.ok Tryz.prog 189 (.st 1 [(0, 33)] (Array.mk [(.int .i64 0)]) [1]) := ⟨fun _ => by kernel_rfl, fun _ => by kernel_rfl, fun _ => by kernel_rfl, (fun f off ft h => match f, h with | 0, h => by cases h; exact ⟨fun _ _ => by kernel_rfl, fun _ _ => by kernel_rfl⟩ | (_ + 1), h => by simp at h),
    TBuild.mk (places := #[(0, 1)]) Tryz.underlying189 (fun _ => by kernel_rfl) (fun _ => by kernel_rfl) (fun i => match i with | 0 => rfl | (_ + 1) => by simp)⟩
theorem g190 : TI.ok Tryz.prog 190 (.st 1 [(0, 33)] (Array.mk [(.int .i64 0)]) [1]) := ⟨fun _ => by kernel_rfl, fun _ => by kernel_rfl, fun _ => by kernel_rfl, (fun f off ft h => match f, h with | 0, h => by cases h; exact ⟨fun _ _ => by kernel_rfl, fun _ _ => by kernel_rfl⟩ | (_ + 1), h => by simp at h),
    TBuild.mk (places := #[(0, 1)]) Tryz.underlying190 (fun _ => by kernel_rfl) (fun _ => by kernel_rfl) (fun i => match i with | 0 => rfl | (_ + 1) => by simp)⟩
theorem g191 : TI.ok Tryz.prog 191 (.st 2 [(0, 9), (1, 159)] (Array.mk [(.string ByteArray.empty), .nilIface]) [1, 1]) := ⟨fun _ => by kernel_rfl, fun _ => by kernel_rfl, fun _ => by kernel_rfl, (fun f off ft h => match f, h with | 0, h => by cases h; exact ⟨fun _ _ => by kernel_rfl, fun _ _ => by kernel_rfl⟩ | 1, h => by cases h; exact ⟨fun _ _ => by kernel_rfl, fun _ _ => by kernel_rfl⟩ | (_ + 2), h => by simp at h),
    TBuild.mk (places := #[(0, 1), (1, 1)]) Tryz.underlying191 (fun _ => by kernel_rfl) (fun _ => by kernel_rfl) (fun i => match i with | 0 => rfl | 1 => rfl | (_ + 2) => by simp)⟩
theorem g192 : TI.ok Tryz.prog 192 (.st 2 [(0, 9), (1, 159)] (Array.mk [(.string ByteArray.empty), .nilIface]) [1, 1]) := ⟨fun _ => by kernel_rfl, fun _ => by kernel_rfl, fun _ => by kernel_rfl, (fun f off ft h => match f, h with | 0, h => by cases h; exact ⟨fun _ _ => by kernel_rfl, fun _ _ => by kernel_rfl⟩ | 1, h => by cases h; exact ⟨fun _ _ => by kernel_rfl, fun _ _ => by kernel_rfl⟩ | (_ + 2), h => by simp at h),
    TBuild.mk (places := #[(0, 1), (1, 1)]) Tryz.underlying192 (fun _ => by kernel_rfl) (fun _ => by kernel_rfl) (fun i => match i with | 0 => rfl | 1 => rfl | (_ + 2) => by simp)⟩
theorem g193 : TI.ok Tryz.prog 193 (.st 5 [(0, 24), (2, 3), (3, 3), (4, 3)] (Array.mk [(.slice none 0 0), (.int .i64 0), (.int .i64 0), (.int .i64 0), (.int .i64 0)]) [2, 1, 1, 1]) := ⟨fun _ => by kernel_rfl, fun _ => by kernel_rfl, fun _ => by kernel_rfl, (fun f off ft h => match f, h with | 0, h => by cases h; exact ⟨fun _ _ => by kernel_rfl, fun _ _ => by kernel_rfl⟩ | 1, h => by cases h; exact ⟨fun _ _ => by kernel_rfl, fun _ _ => by kernel_rfl⟩ | 2, h => by cases h; exact ⟨fun _ _ => by kernel_rfl, fun _ _ => by kernel_rfl⟩ | 3, h => by cases h; exact ⟨fun _ _ => by kernel_rfl, fun _ _ => by kernel_rfl⟩ | (_ + 4), h => by simp at h),
    TBuild.mk (places := #[(0, 2), (2, 1), (3, 1), (4, 1)]) Tryz.underlying193 (fun _ => by kernel_rfl) (fun _ => by kernel_rfl) (fun i => match i with | 0 => rfl | 1 => rfl | 2 => rfl | 3 => rfl | (_ + 4) => by simp)⟩
theorem g194 : TI.ok Tryz.prog 194 (.st 5 [(0, 24), (2, 3), (3, 3), (4, 3)] (Array.mk [(.slice none 0 0), (.int .i64 0), (.int .i64 0), (.int .i64 0), (.int .i64 0)]) [2, 1, 1, 1]) := ⟨fun _ => by kernel_rfl, fun _ => by kernel_rfl, fun _ => by kernel_rfl, (fun f off ft h => match f, h with | 0, h => by cases h; exact ⟨fun _ _ => by kernel_rfl, fun _ _ => by kernel_rfl⟩ | 1, h => by cases h; exact ⟨fun _ _ => by kernel_rfl, fun _ _ => by kernel_rfl⟩ | 2, h => by cases h; exact ⟨fun _ _ => by kernel_rfl, fun _ _ => by kernel_rfl⟩ | 3, h => by cases h; exact ⟨fun _ _ => by kernel_rfl, fun _ _ => by kernel_rfl⟩ | (_ + 4), h => by simp at h),
    TBuild.mk (places := #[(0, 2), (2, 1), (3, 1), (4, 1)]) Tryz.underlying194 (fun _ => by kernel_rfl) (fun _ => by kernel_rfl) (fun i => match i with | 0 => rfl | 1 => rfl | 2 => rfl | 3 => rfl | (_ + 4) => by simp)⟩
theorem g195 : TI.ok Tryz.prog 195 (.sc .nilFunc) := ⟨fun _ => by kernel_rfl, fun _ => by kernel_rfl, fun _ => by kernel_rfl⟩
theorem g196 : TI.ok Tryz.prog 196 (.sc .nilFunc) := ⟨fun _ => by kernel_rfl, fun _ => by kernel_rfl, fun _ => by kernel_rfl⟩
theorem g197 : TI.ok Tryz.prog 197 (.sc .nilFunc) := ⟨fun _ => by kernel_rfl, fun _ => by kernel_rfl, fun _ => by kernel_rfl⟩
theorem g198 : TI.ok Tryz.prog 198 (.sc .nilFunc) := ⟨fun _ => by kernel_rfl, fun _ => by kernel_rfl, fun _ => by kernel_rfl⟩
theorem g199 : TI.ok Tryz.prog 199 (.sc .nilFunc) := ⟨fun _ => by kernel_rfl, fun _ => by kernel_rfl, fun _ => by kernel_rfl⟩
theorem g200 : TI.ok Tryz.prog 200 (.st 9 [(0, 3), (1, 3), (2, 3), (3, 3), (4, 9), (5, 4), (6, 4), (7, 9), (8, 9)] (Array.mk [(.int .i64 0), (.int .i64 0), (.int .i64 0), (.int .i64 0), (.string ByteArray.empty), (.bool false), (.bool false), (.string ByteArray.empty), (.string ByteArray.empty)]) [1, 1, 1, 1, 1, 1, 1, 1, 1]) := ⟨fun _ => by kernel_rfl, fun _ => by kernel_rfl, fun _ => by kernel_rfl, (fun f off ft h => match f, h with | 0, h => by cases h; exact ⟨fun _ _ => by kernel_rfl, fun _ _ => by kernel_rfl⟩ | 1, h => by cases h; exact ⟨fun _ _ => by kernel_rfl, fun _ _ => by kernel_rfl⟩ | 2, h => by cases h; exact ⟨fun _ _ => by kernel_rfl, fun _ _ => by kernel_rfl⟩ | 3, h => by cases h; exact ⟨fun _ _ => by kernel_rfl, fun _ _ => by kernel_rfl⟩ | 4, h => by cases h; exact ⟨fun _ _ => by kernel_rfl, fun _ _ => by kernel_rfl⟩ | 5, h => by cases h; exact ⟨fun _ _ => by kernel_rfl, fun _ _ => by kernel_rfl⟩ | 6, h => by cases h; exact ⟨fun _ _ => by kernel_rfl, fun _ _ => by kernel_rfl⟩ | 7, h => by cases h; exact ⟨fun _ _ => by kernel_rfl, fun _ _ => by kernel_rfl⟩ | 8, h => by cases h; exact ⟨fun _ _ => by kernel_rfl, fun _ _ => by kernel_rfl⟩ | (_ + 9), h => by simp at h),
    TBuild.mk (places := #[(0, 1), (1, 1), (2, 1), (3, 1), (4, 1), (5, 1), (6, 1), (7, 1), (8, 1)]) Tryz.underlying200 (fun _ => by kernel_rfl) (fun _ => by kernel_rfl) (fun i => match i with | 0 => rfl | 1 => rfl | 2 => rfl | 3 => rfl | 4 => rfl | 5 => rfl | 6 => rfl | 7 => rfl | 8 => rfl | (_ + 9) => by simp)⟩
theorem g201 : TI.ok Tryz.prog 201 (.st 9 [(0, 3), (1, 3), (2, 3), (3, 3), (4, 9), (5, 4), (6, 4), (7, 9), (8, 9)] (Array.mk [(.int .i64 0), (.int .i64 0), (.int .i64 0), (.int .i64 0), (.string ByteArray.empty), (.bool false), (.bool false), (.string ByteArray.empty), (.string ByteArray.empty)]) [1, 1, 1, 1, 1, 1, 1, 1, 1]) := ⟨fun _ => by kernel_rfl, fun _ => by kernel_rfl, fun _ => by kernel_rfl, (fun f off ft h => match f, h with | 0, h => by cases h; exact ⟨fun _ _ => by kernel_rfl, fun _ _ => by kernel_rfl⟩ | 1, h => by cases h; exact ⟨fun _ _ => by kernel_rfl, fun _ _ => by kernel_rfl⟩ | 2, h => by cases h; exact ⟨fun _ _ => by kernel_rfl, fun _ _ => by kernel_rfl⟩ | 3, h => by cases h; exact ⟨fun _ _ => by kernel_rfl, fun _ _ => by kernel_rfl⟩ | 4, h => by cases h; exact ⟨fun _ _ => by kernel_rfl, fun _ _ => by kernel_rfl⟩ | 5, h => by cases h; exact ⟨fun _ _ => by kernel_rfl, fun _ _ => by kernel_rfl⟩ | 6, h => by cases h; exact ⟨fun _ _ => by kernel_rfl, fun _ _ => by kernel_rfl⟩ | 7, h => by cases h; exact ⟨fun _ _ => by kernel_rfl, fun _ _ => by kernel_rfl⟩ | 8, h => by cases h; exact ⟨fun _ _ => by kernel_rfl, fun _ _ => by kernel_rfl⟩ | (_ + 9), h => by simp at h),
    TBuild.mk (places := #[(0, 1), (1, 1), (2, 1), (3, 1), (4, 1), (5, 1), (6, 1), (7, 1), (8, 1)]) Tryz.underlying201 (fun _ => by kernel_rfl) (fun _ => by kernel_rfl) (fun i => match i with | 0 => rfl | 1 => rfl | 2 => rfl | 3 => rfl | 4 => rfl | 5 => rfl | 6 => rfl | 7 => rfl | 8 => rfl | (_ + 9) => by simp)⟩
theorem g202 : TI.ok Tryz.prog 202 (.sc .nilFunc) := ⟨fun _ => by kernel_rfl, fun _ => by kernel_rfl, fun _ => by kernel_rfl⟩
theorem g203 : TI.ok Tryz.prog 203 (.sc .nilFunc) := ⟨fun _ => by kernel_rfl, fun _ => by kernel_rfl, fun _ => by kernel_rfl⟩
theorem g204 : TI.ok Tryz.prog 204 (.sc (.map none)) := ⟨fun _ => by kernel_rfl, fun _ => by kernel_rfl, fun _ => by kernel_rfl⟩
theorem g205 : TI.ok Tryz.prog 205 (.sc .nilFunc) := ⟨fun _ => by kernel_rfl, fun _ => by kernel_rfl, fun _ => by kernel_rfl⟩
theorem g206 : TI.ok Tryz.prog 206 (.sc .nilFunc) := ⟨fun _ => by kernel_rfl, fun _ => by kernel_rfl, fun _ => by kernel_rfl⟩
theorem g207 : TI.ok Tryz.prog 207 (.sc .nilFunc) := ⟨fun _ => by kernel_rfl, fun _ => by kernel_rfl, fun _ => by kernel_rfl⟩
theorem g208 : TI.ok Tryz.prog 208 (.sc .nilFunc) := ⟨fun _ => by kernel_rfl, fun _ => by kernel_rfl, fun _ => by kernel_rfl⟩
theorem g209 : TI.ok Tryz.prog 209 (.sc .nilFunc) := ⟨fun _ => by kernel_rfl, fun _ => by kernel_rfl, fun _ => by kernel_rfl⟩
theorem g210 : TI.ok Tryz.prog 210 (.sc .nilFunc) := ⟨fun _ => by kernel_rfl, fun _ => by kernel_rfl, fun _ => by kernel_rfl⟩
theorem g211 : TI.ok Tryz.prog 211 (.sc .nilFunc) := ⟨fun _ => by kernel_rfl, fun _ => by kernel_rfl, fun _ => by kernel_rfl⟩
theorem g212 : TI.ok Tryz.prog 212 (.sc .nilFunc) := ⟨fun _ => by kernel_rfl, fun _ => by kernel_rfl, fun _ => by kernel_rfl⟩
theorem g213 : TI.ok Tryz.prog 213 (.sc .nilFunc) := ⟨fun _ => by kernel_rfl, fun _ => by kernel_rfl, fun _ => by kernel_rfl⟩
theorem g214 : TI.ok Tryz.prog 214 (.sc .nilFunc) := ⟨fun _ => by kernel_rfl, fun _ => by kernel_rfl, fun _ => by kernel_rfl⟩
theorem g215 : TI.ok Tryz.prog 215 (.sc (.pointer none)) := ⟨fun _ => by kernel_rfl, fun _ => by kernel_rfl, fun _ => by kernel_rfl⟩
theorem g216 : TI.ok Tryz.prog 216 (.sc .nilFunc) := ⟨fun _ => by kernel_rfl, fun _ => by kernel_rfl, fun _ => by kernel_rfl⟩
theorem g217 : TI.ok Tryz.prog 217 (.sc .nilFunc) := ⟨fun _ => by kernel_rfl, fun _ => by kernel_rfl, fun _ => by kernel_rfl⟩
theorem g218 : TI.ok Tryz.prog 218 (.sc .nilFunc) := ⟨fun _ => by kernel_rfl, fun _ => by kernel_rfl, fun _ => by kernel_rfl⟩
theorem g219 : TI.ok Tryz.prog 219 (.sc .nilFunc) := ⟨fun _ => by kernel_rfl, fun _ => by kernel_rfl, fun _ => by kernel_rfl⟩
theorem g220 : TI.ok Tryz.prog 220 (.sc .nilFunc) := ⟨fun _ => by kernel_rfl, fun _ => by kernel_rfl, fun _ => by kernel_rfl⟩
theorem g221 : TI.ok Tryz.prog 221 (.sc (.pointer none)) := ⟨fun _ => by kernel_rfl, fun _ => by kernel_rfl, fun _ => by kernel_rfl⟩
theorem g222 : TI.ok Tryz.prog 222 (.st 2 [(0, 221), (1, 182)] (Array.mk [(.pointer none), (.slice none 0 0)]) [1, 1]) := ⟨fun _ => by kernel_rfl, fun _ => by kernel_rfl, fun _ => by kernel_rfl, (fun f off ft h => match f, h with | 0, h => by cases h; exact ⟨fun _ _ => by kernel_rfl, fun _ _ => by kernel_rfl⟩ | 1, h => by cases h; exact ⟨fun _ _ => by kernel_rfl, fun _ _ => by kernel_rfl⟩ | (_ + 2), h => by simp at h),
    TBuild.mk (places := #[(0, 1), (1, 1)]) Tryz.underlying222 (fun _ => by kernel_rfl) (fun _ => by kernel_rfl) (fun i => match i with | 0 => rfl | 1 => rfl | (_ + 2) => by simp)⟩
theorem g223 : TI.ok Tryz.prog 223 (.st 2 [(0, 221), (1, 182)] (Array.mk [(.pointer none), (.slice none 0 0)]) [1, 1]) := ⟨fun _ => by kernel_rfl, fun _ => by kernel_rfl, fun _ => by kernel_rfl, (fun f off ft h => match f, h with | 0, h => by cases h; exact ⟨fun _ _ => by kernel_rfl, fun _ _ => by kernel_rfl⟩ | 1, h => by cases h; exact ⟨fun _ _ => by kernel_rfl, fun _ _ => by kernel_rfl⟩ | (_ + 2), h => by simp at h),
    TBuild.mk (places := #[(0, 1), (1, 1)]) Tryz.underlying223 (fun _ => by kernel_rfl) (fun _ => by kernel_rfl) (fun i => match i with | 0 => rfl | 1 => rfl | (_ + 2) => by simp)⟩
theorem g224 : TI.ok Tryz.prog 224 (.sc .nilFunc) := ⟨fun _ => by kernel_rfl, fun _ => by kernel_rfl, fun _ => by kernel_rfl⟩
theorem g225 : TI.ok Tryz.prog 225 (.sc .nilFunc) := ⟨fun _ => by kernel_rfl, fun _ => by kernel_rfl, fun _ => by kernel_rfl⟩
theorem g227 : TI.ok Tryz.prog 227 (.sc .nilFunc) := ⟨fun _ => by kernel_rfl, fun _ => by kernel_rfl, fun _ => by kernel_rfl⟩
theorem g232 : TI.ok Tryz.prog 232 (.sc .nilFunc) := ⟨fun _ => by kernel_rfl, fun _ => by kernel_rfl, fun _ => by kernel_rfl⟩
theorem g233 : TI.ok Tryz.prog 233 (.sc .nilIface) := ⟨fun _ => by kernel_rfl, fun _ => by kernel_rfl, fun _ => by kernel_rfl⟩
theorem g235 : TI.ok Tryz.prog 235 (.sc .nilFunc) := ⟨fun _ => by kernel_rfl, fun _ => by kernel_rfl, fun _ => by kernel_rfl⟩
theorem g237 : TI.ok Tryz.prog 237 (.sc .nilFunc) := ⟨fun _ => by kernel_rfl, fun _ => by kernel_rfl, fun _ => by kernel_rfl⟩
theorem g238 : TI.ok Tryz.prog 238 (.sc .nilFunc) := ⟨fun _ => by kernel_rfl, fun _ => by kernel_rfl, fun _ => by kernel_rfl⟩
theorem g239 : TI.ok Tryz.prog 239 (.sc .nilFunc) := ⟨fun _ => by kernel_rfl, fun _ => by kernel_rfl, fun _ => by kernel_rfl⟩
theorem g240 : TI.ok Tryz.prog 240 (.sc (.pointer none)) := ⟨fun _ => by kernel_rfl, fun _ => by kernel_rfl, fun _ => by kernel_rfl⟩
theorem g241 : TI.ok Tryz.prog 241 (.sc .nilFunc) := ⟨fun _ => by kernel_rfl, fun _ => by kernel_rfl, fun _ => by kernel_rfl⟩
theorem g242 : TI.ok Tryz.prog 242 (.sc (.int .u64 0)) := ⟨fun _ => by kernel_rfl, fun _ => by kernel_rfl, fun _ => by kernel_rfl⟩
theorem g243 : TI.ok Tryz.prog 243 (.sl 245 2 16) := ⟨fun _ => by kernel_rfl, fun _ => by kernel_rfl, fun _ => by kernel_rfl, fun _ => by kernel_rfl, (Tryz.prog.info? 245).getD default, (.agg #[(.int .i64 0), (.int .i64 0)]), ⟨by kernel_rfl, by kernel_rfl, by kernel_rfl, by kernel_rfl, by kernel_rfl, by kernel_rfl⟩⟩
theorem g244 : TI.ok Tryz.prog 244 (.st 2 [(0, 3), (1, 3)] (Array.mk [(.int .i64 0), (.int .i64 0)]) [1, 1]) := ⟨fun _ => by kernel_rfl, fun _ => by kernel_rfl, fun _ => by kernel_rfl, (fun f off ft h => match f, h with | 0, h => by cases h; exact ⟨fun _ _ => by kernel_rfl, fun _ _ => by kernel_rfl⟩ | 1, h => by cases h; exact ⟨fun _ _ => by kernel_rfl, fun _ _ => by kernel_rfl⟩ | (_ + 2), h => by simp at h),
    TBuild.mk (places := #[(0, 1), (1, 1)]) Tryz.underlying244 (fun _ => by kernel_rfl) (fun _ => by kernel_rfl) (fun i => match i with | 0 => rfl | 1 => rfl | (_ + 2) => by simp)⟩
theorem g245 : TI.ok Tryz.prog 245 (.st 2 [(0, 3), (1, 3)] (Array.mk [(.int .i64 0), (.int .i64 0)]) [1, 1]) := ⟨fun _ => by kernel_rfl, fun _ => by kernel_rfl, fun _ => by kernel_rfl, (fun f off ft h => match f, h with | 0, h => by cases h; exact ⟨fun _ _ => by kernel_rfl, fun _ _ => by kernel_rfl⟩ | 1, h => by cases h; exact ⟨fun _ _ => by kernel_rfl, fun _ _ => by kernel_rfl⟩ | (_ + 2), h => by simp at h),
    TBuild.mk (places := #[(0, 1), (1, 1)]) Tryz.underlying245 (fun _ => by kernel_rfl) (fun _ => by kernel_rfl) (fun i => match i with | 0 => rfl | 1 => rfl | (_ + 2) => by simp)⟩
theorem g246 : TI.ok Tryz.prog 246 (.sc (.int .u32 0)) := ⟨fun _ => by kernel_rfl, fun _ => by kernel_rfl, fun _ => by kernel_rfl⟩
theorem g247 : TI.ok Tryz.prog 247 (.sc .nilFunc) := ⟨fun _ => by kernel_rfl, fun _ => by kernel_rfl, fun _ => by kernel_rfl⟩
theorem g248 : TI.ok Tryz.prog 248 (.sc (.pointer none)) := ⟨fun _ => by kernel_rfl, fun _ => by kernel_rfl, fun _ => by kernel_rfl⟩
theorem g249 : TI.ok Tryz.prog 249 (.st 1 [(0, 17)] (Array.mk [(.pointer none)]) [1]) := ⟨fun _ => by kernel_rfl, fun _ => by kernel_rfl, fun _ => by kernel_rfl, (fun f off ft h => match f, h with | 0, h => by cases h; exact ⟨fun _ _ => by kernel_rfl, fun _ _ => by kernel_rfl⟩ | (_ + 1), h => by simp at h),
    TBuild.mk (places := #[(0, 1)]) Tryz.underlying249 (fun _ => by kernel_rfl) (fun _ => by kernel_rfl) (fun i => match i with | 0 => rfl | (_ + 1) => by simp)⟩
theorem g251 : TI.ok Tryz.prog 251 (.sc (.pointer none)) := ⟨fun _ => by kernel_rfl, fun _ => by kernel_rfl, fun _ => by kernel_rfl⟩
theorem g252 : TI.ok Tryz.prog 252 (.sc .nilFunc) := ⟨fun _ => by kernel_rfl, fun _ => by kernel_rfl, fun _ => by kernel_rfl⟩
theorem g253 : TI.ok Tryz.prog 253 (.sc .nilFunc) := ⟨fun _ => by kernel_rfl, fun _ => by kernel_rfl, fun _ => by kernel_rfl⟩
theorem g254 : TI.ok Tryz.prog 254 (.sc .nilFunc) := ⟨fun _ => by kernel_rfl, fun _ => by kernel_rfl, fun _ => by kernel_rfl⟩
theorem g255 : TI.ok Tryz.prog 255 (.sc .nilIface) := ⟨fun _ => by kernel_rfl, fun _ => by kernel_rfl, fun _ => by kernel_rfl⟩
theorem g257 : TI.ok Tryz.prog 257 (.sc .nilFunc) := ⟨fun _ => by kernel_rfl, fun _ => by kernel_rfl, fun _ => by kernel_rfl⟩
theorem g258 : TI.ok Tryz.prog 258 (.sc .nilIface) := ⟨fun _ => by kernel_rfl, fun _ => by kernel_rfl, fun _ => by kernel_rfl⟩
theorem g259 : TI.ok Tryz.prog 259 (.sc .nilFunc) := ⟨fun _ => by kernel_rfl, fun _ => by kernel_rfl, fun _ => by kernel_rfl⟩
theorem g260 : TI.ok Tryz.prog 260 (.sc .nilIface) := ⟨fun _ => by kernel_rfl, fun _ => by kernel_rfl, fun _ => by kernel_rfl⟩
theorem g261 : TI.ok Tryz.prog 261 (.sl 159 1 16) := ⟨fun _ => by kernel_rfl, fun _ => by kernel_rfl, fun _ => by kernel_rfl, fun _ => by kernel_rfl, (Tryz.prog.info? 159).getD default, .nilIface, ⟨by kernel_rfl, by kernel_rfl, by kernel_rfl, by kernel_rfl, by kernel_rfl, by kernel_rfl⟩⟩
theorem g262 : TI.ok Tryz.prog 262 (.sc .nilFunc) := ⟨fun _ => by kernel_rfl, fun _ => by kernel_rfl, fun _ => by kernel_rfl⟩
theorem g263 : TI.ok Tryz.prog 263 (.sc .nilFunc) := ⟨fun _ => by kernel_rfl, fun _ => by kernel_rfl, fun _ => by kernel_rfl⟩
theorem g264 : TI.ok Tryz.prog 264 (.sc .nilFunc) := ⟨fun _ => by kernel_rfl, fun _ => by kernel_rfl, fun _ => by kernel_rfl⟩
theorem g266 : TI.ok Tryz.prog 266 (.sc .nilFunc) := ⟨fun _ => by kernel_rfl, fun _ => by kernel_rfl, fun _ => by kernel_rfl⟩
theorem g267 : TI.ok Tryz.prog 267 (.sl 273 3 6) := ⟨fun _ => by kernel_rfl, fun _ => by kernel_rfl, fun _ => by kernel_rfl, fun _ => by kernel_rfl, (Tryz.prog.info? 273).getD default, (.agg #[(.int .u16 0), (.int .u16 0), (.int .u16 0)]), ⟨by kernel_rfl, by kernel_rfl, by kernel_rfl, by kernel_rfl, by kernel_rfl, by kernel_rfl⟩⟩
theorem g268 : TI.ok Tryz.prog 268 (.sl 276 3 12) := ⟨fun _ => by kernel_rfl, fun _ => by kernel_rfl, fun _ => by kernel_rfl, fun _ => by kernel_rfl, (Tryz.prog.info? 276).getD default, (.agg #[(.int .u32 0), (.int .u32 0), (.int .u32 0)]), ⟨by kernel_rfl, by kernel_rfl, by kernel_rfl, by kernel_rfl, by kernel_rfl, by kernel_rfl⟩⟩
theorem g269 : TI.ok Tryz.prog 269 (.st 3 [(0, 267), (1, 268), (2, 3)] (Array.mk [(.slice none 0 0), (.slice none 0 0), (.int .i64 0)]) [1, 1, 1]) := ⟨fun _ => by kernel_rfl, fun _ => by kernel_rfl, fun _ => by kernel_rfl, (fun f off ft h => match f, h with | 0, h => by cases h; exact ⟨fun _ _ => by kernel_rfl, fun _ _ => by kernel_rfl⟩ | 1, h => by cases h; exact ⟨fun _ _ => by kernel_rfl, fun _ _ => by kernel_rfl⟩ | 2, h => by cases h; exact ⟨fun _ _ => by kernel_rfl, fun _ _ => by kernel_rfl⟩ | (_ + 3), h => by simp at h),
    TBuild.mk (places := #[(0, 1), (1, 1), (2, 1)]) Tryz.underlying269 (fun _ => by kernel_rfl) (fun _ => by kernel_rfl) (fun i => match i with | 0 => rfl | 1 => rfl | 2 => rfl | (_ + 3) => by simp)⟩
theorem g270 : TI.ok Tryz.prog 270 (.st 3 [(0, 267), (1, 268), (2, 3)] (Array.mk [(.slice none 0 0), (.slice none 0 0), (.int .i64 0)]) [1, 1, 1]) := ⟨fun _ => by kernel_rfl, fun _ => by kernel_rfl, fun _ => by kernel_rfl, (fun f off ft h => match f, h with | 0, h => by cases h; exact ⟨fun _ _ => by kernel_rfl, fun _ _ => by kernel_rfl⟩ | 1, h => by cases h; exact ⟨fun _ _ => by kernel_rfl, fun _ _ => by kernel_rfl⟩ | 2, h => by cases h; exact ⟨fun _ _ => by kernel_rfl, fun _ _ => by kernel_rfl⟩ | (_ + 3), h => by simp at h),
    TBuild.mk (places := #[(0, 1), (1, 1), (2, 1)]) Tryz.underlying270 (fun _ => by kernel_rfl) (fun _ => by kernel_rfl) (fun i => match i with | 0 => rfl | 1 => rfl | 2 => rfl | (_ + 3) => by simp)⟩
theorem g271 : TI.ok Tryz.prog 271 (.sc (.int .u16 0)) := ⟨fun _ => by kernel_rfl, fun _ => by kernel_rfl, fun _ => by kernel_rfl⟩
theorem g272 : TI.ok Tryz.prog 272 (.st 3 [(0, 271), (1, 271), (2, 271)] (Array.mk [(.int .u16 0), (.int .u16 0), (.int .u16 0)]) [1, 1, 1]) := ⟨fun _ => by kernel_rfl, fun _ => by kernel_rfl, fun _ => by kernel_rfl, (fun f off ft h => match f, h with | 0, h => by cases h; exact ⟨fun _ _ => by kernel_rfl, fun _ _ => by kernel_rfl⟩ | 1, h => by cases h; exact ⟨fun _ _ => by kernel_rfl, fun _ _ => by kernel_rfl⟩ | 2, h => by cases h; exact ⟨fun _ _ => by kernel_rfl, fun _ _ => by kernel_rfl⟩ | (_ + 3), h => by simp at h),
    TBuild.mk (places := #[(0, 1), (1, 1), (2, 1)]) Tryz.underlying272 (fun _ => by kernel_rfl) (fun _ => by kernel_rfl) (fun i => match i with | 0 => rfl | 1 => rfl | 2 => rfl | (_ + 3) => by simp)⟩
theorem g273 : TI.ok Tryz.prog 273 (.st 3 [(0, 271), (1, 271), (2, 271)] (Array.mk [(.int .u16 0), (.int .u16 0), (.int .u16 0)]) [1, 1, 1]) := ⟨fun _ => by kernel_rfl, fun _ => by kernel_rfl, fun _ => by kernel_rfl, (fun f off ft h => match f, h with | 0, h => by cases h; exact ⟨fun _ _ => by kernel_rfl, fun _ _ => by kernel_rfl⟩ | 1, h => by cases h; exact ⟨fun _ _ => by kernel_rfl, fun _ _ => by kernel_rfl⟩ | 2, h => by cases h; exact ⟨fun _ _ => by kernel_rfl, fun _ _ => by kernel_rfl⟩ | (_ + 3), h => by simp at h),
    TBuild.mk (places := #[(0, 1), (1, 1), (2, 1)]) Tryz.underlying273 (fun _ => by kernel_rfl) (fun _ => by kernel_rfl) (fun i => match i with | 0 => rfl | 1 => rfl | 2 => rfl | (_ + 3) => by simp)⟩
theorem g274 : TI.ok Tryz.prog 274 (.sc .nilFunc) := ⟨fun _ => by kernel_rfl, fun _ => by kernel_rfl, fun _ => by kernel_rfl⟩
theorem g275 : TI.ok Tryz.prog 275 (.st 3 [(0, 246), (1, 246), (2, 246)] (Array.mk [(.int .u32 0), (.int .u32 0), (.int .u32 0)]) [1, 1, 1]) := ⟨fun _ => by kernel_rfl, fun _ => by kernel_rfl, fun _ => by kernel_rfl, (fun f off ft h => match f, h with | 0, h => by cases h; exact ⟨fun _ _ => by kernel_rfl, fun _ _ => by kernel_rfl⟩ | 1, h => by cases h; exact ⟨fun _ _ => by kernel_rfl, fun _ _ => by kernel_rfl⟩ | 2, h => by cases h; exact ⟨fun _ _ => by kernel_rfl, fun _ _ => by kernel_rfl⟩ | (_ + 3), h => by simp at h),
    TBuild.mk (places := #[(0, 1), (1, 1), (2, 1)]) Tryz.underlying275 (fun _ => by kernel_rfl) (fun _ => by kernel_rfl) (fun i => match i with | 0 => rfl | 1 => rfl | 2 => rfl | (_ + 3) => by simp)⟩
theorem g276 : TI.ok Tryz.prog 276 (.st 3 [(0, 246), (1, 246), (2, 246)] (Array.mk [(.int .u32 0), (.int .u32 0), (.int .u32 0)]) [1, 1, 1]) := ⟨fun _ => by kernel_rfl, fun _ => by kernel_rfl, fun _ => by kernel_rfl, (fun f off ft h => match f, h with | 0, h => by cases h; exact ⟨fun _ _ => by kernel_rfl, fun _ _ => by kernel_rfl⟩ | 1, h => by cases h; exact ⟨fun _ _ => by kernel_rfl, fun _ _ => by kernel_rfl⟩ | 2, h => by cases h; exact ⟨fun _ _ => by kernel_rfl, fun _ _ => by kernel_rfl⟩ | (_ + 3), h => by simp at h),
    TBuild.mk (places := #[(0, 1), (1, 1), (2, 1)]) Tryz.underlying276 (fun _ => by kernel_rfl) (fun _ => by kernel_rfl) (fun i => match i with | 0 => rfl | 1 => rfl | 2 => rfl | (_ + 3) => by simp)⟩
theorem g277 : TI.ok Tryz.prog 277 (.sc .nilFunc) := ⟨fun _ => by kernel_rfl, fun _ => by kernel_rfl, fun _ => by kernel_rfl⟩
theorem g278 : TI.ok Tryz.prog 278 (.sc (.pointer none)) := ⟨fun _ => by kernel_rfl, fun _ => by kernel_rfl, fun _ => by kernel_rfl⟩
theorem g279 : TI.ok Tryz.prog 279 (.sc (.pointer none)) := ⟨fun _ => by kernel_rfl, fun _ => by kernel_rfl, fun _ => by kernel_rfl⟩
theorem g285 : TI.ok Tryz.prog 285 (.sc .nilFunc) := ⟨fun _ => by kernel_rfl, fun _ => by kernel_rfl, fun _ => by kernel_rfl⟩
theorem g287 : TI.ok Tryz.prog 287 (.sc .nilFunc) := ⟨fun _ => by kernel_rfl, fun _ => by kernel_rfl, fun _ => by kernel_rfl⟩
theorem g290 : TI.ok Tryz.prog 290 (.st 11 [(0, 12), (1, 12), (2, 246), (3, 286), (4, 5), (5, 5), (6, 236), (7, 287), (8, 240), (9, 288), (10, 289)] (Array.mk [(.int .u64 0), (.int .u64 0), (.int .u32 0), (.int .u8 0), (.int .u8 0), (.int .u8 0), (.int .u8 0), .nilFunc, (.pointer none), (.int .i32 0), (.int .i32 0)]) [1, 1, 1, 1, 1, 1, 1, 1, 1, 1, 1]) := ⟨fun _ => by kernel_rfl, fun _ => by kernel_rfl, fun _ => by kernel_rfl, (fun f off ft h => match f, h with | 0, h => by cases h; exact ⟨fun _ _ => by kernel_rfl, fun _ _ => by kernel_rfl⟩ | 1, h => by cases h; exact ⟨fun _ _ => by kernel_rfl, fun _ _ => by kernel_rfl⟩ | 2, h => by cases h; exact ⟨fun _ _ => by kernel_rfl, fun _ _ => by kernel_rfl⟩ | 3, h => by cases h; exact ⟨fun _ _ => by kernel_rfl, fun _ _ => by kernel_rfl⟩ | 4, h => by cases h; exact ⟨fun _ _ => by kernel_rfl, fun _ _ => by kernel_rfl⟩ | 5, h => by cases h; exact ⟨fun _ _ => by kernel_rfl, fun _ _ => by kernel_rfl⟩ | 6, h => by cases h; exact ⟨fun _ _ => by kernel_rfl, fun _ _ => by kernel_rfl⟩ | 7, h => by cases h; exact ⟨fun _ _ => by kernel_rfl, fun _ _ => by kernel_rfl⟩ | 8, h => by cases h; exact ⟨fun _ _ => by kernel_rfl, fun _ _ => by kernel_rfl⟩ | 9, h => by cases h; exact ⟨fun _ _ => by kernel_rfl, fun _ _ => by kernel_rfl⟩ | 10, h => by cases h; exact ⟨fun _ _ => by kernel_rfl, fun _ _ => by kernel_rfl⟩ | (_ + 11), h => by simp at h),
    TBuild.mk (places := #[(0, 1), (1, 1), (2, 1), (3, 1), (4, 1), (5, 1), (6, 1), (7, 1), (8, 1), (9, 1), (10, 1)]) Tryz.underlying290 (fun _ => by kernel_rfl) (fun _ => by kernel_rfl) (fun i => match i with | 0 => rfl | 1 => rfl | 2 => rfl | 3 => rfl | 4 => rfl | 5 => rfl | 6 => rfl | 7 => rfl | 8 => rfl | 9 => rfl | 10 => rfl | (_ + 11) => by simp)⟩
theorem g292 : TI.ok Tryz.prog 292 (.st 7 [(0, 3), (1, 3), (2, 3), (3, 3), (4, 9), (5, 9), (6, 4)] (Array.mk [(.int .i64 0), (.int .i64 0), (.int .i64 0), (.int .i64 0), (.string ByteArray.empty), (.string ByteArray.empty), (.bool false)]) [1, 1, 1, 1, 1, 1, 1]) := ⟨fun _ => by kernel_rfl, fun _ => by kernel_rfl, fun _ => by kernel_rfl, (fun f off ft h => match f, h with | 0, h => by cases h; exact ⟨fun _ _ => by kernel_rfl, fun _ _ => by kernel_rfl⟩ | 1, h => by cases h; exact ⟨fun _ _ => by kernel_rfl, fun _ _ => by kernel_rfl⟩ | 2, h => by cases h; exact ⟨fun _ _ => by kernel_rfl, fun _ _ => by kernel_rfl⟩ | 3, h => by cases h; exact ⟨fun _ _ => by kernel_rfl, fun _ _ => by kernel_rfl⟩ | 4, h => by cases h; exact ⟨fun _ _ => by kernel_rfl, fun _ _ => by kernel_rfl⟩ | 5, h => by cases h; exact ⟨fun _ _ => by kernel_rfl, fun _ _ => by kernel_rfl⟩ | 6, h => by cases h; exact ⟨fun _ _ => by kernel_rfl, fun _ _ => by kernel_rfl⟩ | (_ + 7), h => by simp at h),
    TBuild.mk (places := #[(0, 1), (1, 1), (2, 1), (3, 1), (4, 1), (5, 1), (6, 1)]) Tryz.underlying292 (fun _ => by kernel_rfl) (fun _ => by kernel_rfl) (fun i => match i with | 0 => rfl | 1 => rfl | 2 => rfl | 3 => rfl | 4 => rfl | 5 => rfl | 6 => rfl | (_ + 7) => by simp)⟩
theorem g293 : TI.ok Tryz.prog 293 (.st 7 [(0, 3), (1, 3), (2, 3), (3, 3), (4, 9), (5, 9), (6, 4)] (Array.mk [(.int .i64 0), (.int .i64 0), (.int .i64 0), (.int .i64 0), (.string ByteArray.empty), (.string ByteArray.empty), (.bool false)]) [1, 1, 1, 1, 1, 1, 1]) := ⟨fun _ => by kernel_rfl, fun _ => by kernel_rfl, fun _ => by kernel_rfl, (fun f off ft h => match f, h with | 0, h => by cases h; exact ⟨fun _ _ => by kernel_rfl, fun _ _ => by kernel_rfl⟩ | 1, h => by cases h; exact ⟨fun _ _ => by kernel_rfl, fun _ _ => by kernel_rfl⟩ | 2, h => by cases h; exact ⟨fun _ _ => by kernel_rfl, fun _ _ => by kernel_rfl⟩ | 3, h => by cases h; exact ⟨fun _ _ => by kernel_rfl, fun _ _ => by kernel_rfl⟩ | 4, h => by cases h; exact ⟨fun _ _ => by kernel_rfl, fun _ _ => by kernel_rfl⟩ | 5, h => by cases h; exact ⟨fun _ _ => by kernel_rfl, fun _ _ => by kernel_rfl⟩ | 6, h => by cases h; exact ⟨fun _ _ => by kernel_rfl, fun _ _ => by kernel_rfl⟩ | (_ + 7), h => by simp at h),
    TBuild.mk (places := #[(0, 1), (1, 1), (2, 1), (3, 1), (4, 1), (5, 1), (6, 1)]) Tryz.underlying293 (fun _ => by kernel_rfl) (fun _ => by kernel_rfl) (fun i => match i with | 0 => rfl | 1 => rfl | 2 => rfl | 3 => rfl | 4 => rfl | 5 => rfl | 6 => rfl | (_ + 7) => by simp)⟩
theorem g294 : TI.ok Tryz.prog 294 (.sc .nilFunc) := ⟨fun _ => by kernel_rfl, fun _ => by kernel_rfl, fun _ => by kernel_rfl⟩
theorem g295 : TI.ok Tryz.prog 295 (.sc .nilFunc) := ⟨fun _ => by kernel_rfl, fun _ => by kernel_rfl, fun _ => by kernel_rfl⟩
theorem g296 : TI.ok Tryz.prog 296 (.st 2 [(0, 9), (1, 236)] (Array.mk [(.string ByteArray.empty), (.int .u8 0)]) [1, 1]) := ⟨fun _ => by kernel_rfl, fun _ => by kernel_rfl, fun _ => by kernel_rfl, (fun f off ft h => match f, h with | 0, h => by cases h; exact ⟨fun _ _ => by kernel_rfl, fun _ _ => by kernel_rfl⟩ | 1, h => by cases h; exact ⟨fun _ _ => by kernel_rfl, fun _ _ => by kernel_rfl⟩ | (_ + 2), h => by simp at h),
    TBuild.mk (places := #[(0, 1), (1, 1)]) Tryz.underlying296 (fun _ => by kernel_rfl) (fun _ => by kernel_rfl) (fun i => match i with | 0 => rfl | 1 => rfl | (_ + 2) => by simp)⟩
theorem g298 : TI.ok Tryz.prog 298 (.sc (.pointer none)) := ⟨fun _ => by kernel_rfl, fun _ => by kernel_rfl, fun _ => by kernel_rfl⟩
theorem g299 : TI.ok Tryz.prog 299 (.sc .nilFunc) := ⟨fun _ => by kernel_rfl, fun _ => by kernel_rfl, fun _ => by kernel_rfl⟩
theorem g302 : TI.ok Tryz.prog 302 (.sl 305 4 16) := ⟨fun _ => by kernel_rfl, fun _ => by kernel_rfl, fun _ => by kernel_rfl, fun _ => by kernel_rfl, (Tryz.prog.info? 305).getD default, (.agg #[(.int .i32 0), (.int .i32 0), (.int .i32 0), (.int .i32 0)]), ⟨by kernel_rfl, by kernel_rfl, by kernel_rfl, by kernel_rfl, by kernel_rfl, by kernel_rfl⟩⟩
theorem g304 : TI.ok Tryz.prog 304 (.st 4 [(0, 288), (1, 289), (2, 303), (3, 303)] (Array.mk [(.int .i32 0), (.int .i32 0), (.int .i32 0), (.int .i32 0)]) [1, 1, 1, 1]) := ⟨fun _ => by kernel_rfl, fun _ => by kernel_rfl, fun _ => by kernel_rfl, (fun f off ft h => match f, h with | 0, h => by cases h; exact ⟨fun _ _ => by kernel_rfl, fun _ _ => by kernel_rfl⟩ | 1, h => by cases h; exact ⟨fun _ _ => by kernel_rfl, fun _ _ => by kernel_rfl⟩ | 2, h => by cases h; exact ⟨fun _ _ => by kernel_rfl, fun _ _ => by kernel_rfl⟩ | 3, h => by cases h; exact ⟨fun _ _ => by kernel_rfl, fun _ _ => by kernel_rfl⟩ | (_ + 4), h => by simp at h),
    TBuild.mk (places := #[(0, 1), (1, 1), (2, 1), (3, 1)]) Tryz.underlying304 (fun _ => by kernel_rfl) (fun _ => by kernel_rfl) (fun i => match i with | 0 => rfl | 1 => rfl | 2 => rfl | 3 => rfl | (_ + 4) => by simp)⟩
theorem g306 : TI.ok Tryz.prog 306 (.sc (.pointer none)) := ⟨fun _ => by kernel_rfl, fun _ => by kernel_rfl, fun _ => by kernel_rfl⟩
@[reducible] def G : TEnv := [(1, .sc .nilFunc), (2, .sc (.int .i64 0)), (3, .sc (.int .i64 0)), (4, .bl), (5, .sc (.int .u8 0)), (9, .str), (12, .sc (.int .u64 0)), (15, .sc (.pointer none)), (16, .sc (.pointer none)), (17, .sc (.pointer none)), (20, .sc .nilIface), (21, .sc (.int .i32 0)), (22, .sl 42 10 136), (23, .st 2 [(0, 22), (1, 3)] (Array.mk [(.slice none 0 0), (.int .i64 0)]) [1, 1]), (24, .st 2 [(0, 22), (1, 3)] (Array.mk [(.slice none 0 0), (.int .i64 0)]) [1, 1]), (25, .sl 39 3 40), (26, .sl 89 2 24), (27, .st 4 [(0, 25), (1, 26), (2, 3), (3, 4)] (Array.mk [(.slice none 0 0), (.slice none 0 0), (.int .i64 0), (.bool false)]) [1, 1, 1, 1]), (28, .st 4 [(0, 25), (1, 26), (2, 3), (3, 4)] (Array.mk [(.slice none 0 0), (.slice none 0 0), (.int .i64 0), (.bool false)]) [1, 1, 1, 1]), (29, .sc .nilFunc), (30, .sc .nilFunc), (31, .sc .nilFunc), (32, .sl 3 1 8), (33, .sc (.int .i64 0)), (35, .sc .nilFunc), (36, .sc .nilFunc), (37, .sc .nilFunc), (38, .st 3 [(0, 9), (1, 9), (2, 3)] (Array.mk [(.string ByteArray.empty), (.string ByteArray.empty), (.int .i64 0)]) [1, 1, 1]), (39, .st 3 [(0, 9), (1, 9), (2, 3)] (Array.mk [(.string ByteArray.empty), (.string ByteArray.empty), (.int .i64 0)]) [1, 1, 1]), (40, .sl 130 2 32), (41, .st 10 [(0, 3), (1, 9), (2, 9), (3, 9), (4, 40), (5, 3), (6, 32), (7, 3), (8, 3), (9, 3)] (Array.mk [(.int .i64 0), (.string ByteArray.empty), (.string ByteArray.empty), (.string ByteArray.empty), (.slice none 0 0), (.int .i64 0), (.slice none 0 0), (.int .i64 0), (.int .i64 0), (.int .i64 0)]) [1, 1, 1, 1, 1, 1, 1, 1, 1, 1]), (42, .st 10 [(0, 3), (1, 9), (2, 9), (3, 9), (4, 40), (5, 3), (6, 32), (7, 3), (8, 3), (9, 3)] (Array.mk [(.int .i64 0), (.string ByteArray.empty), (.string ByteArray.empty), (.string ByteArray.empty), (.slice none 0 0), (.int .i64 0), (.slice none 0 0), (.int .i64 0), (.int .i64 0), (.int .i64 0)]) [1, 1, 1, 1, 1, 1, 1, 1, 1, 1]), (43, .sc .nilFunc), (44, .sc .nilFunc), (45, .sc .nilFunc), (46, .sc .nilFunc), (47, .sl 67 4 32), (48, .sl 63 5 104), (49, .sc .nilFunc), (50, .sl 72 11 104), (52, .sc .nilFunc), (53, .sc .nilFunc), (54, .sc .nilFunc), (55, .sc .nilFunc), (56, .sc .nilFunc), (57, .sc .nilFunc), (58, .sc .nilFunc), (59, .sl 9 1 16), (60, .sl 293 7 72), (61, .sl 101 2 32), (62, .st 5 [(0, 4), (1, 59), (2, 60), (3, 60), (4, 61)] (Array.mk [(.bool false), (.slice none 0 0), (.slice none 0 0), (.slice none 0 0), (.slice none 0 0)]) [1, 1, 1, 1, 1]), (63, .st 5 [(0, 4), (1, 59), (2, 60), (3, 60), (4, 61)] (Array.mk [(.bool false), (.slice none 0 0), (.slice none 0 0), (.slice none 0 0), (.slice none 0 0)]) [1, 1, 1, 1, 1]), (65, .sc .nilFunc), (66, .st 4 [(0, 3), (1, 3), (2, 3), (3, 4)] (Array.mk [(.int .i64 0), (.int .i64 0), (.int .i64 0), (.bool false)]) [1, 1, 1, 1]), (67, .st 4 [(0, 3), (1, 3), (2, 3), (3, 4)] (Array.mk [(.int .i64 0), (.int .i64 0), (.int .i64 0), (.bool false)]) [1, 1, 1, 1]), (68, .sc .nilFunc), (69, .st 10 [(0, 3), (1, 3), (2, 9), (3, 4), (4, 4), (5, 9), (6, 9), (7, 3), (8, 3), (9, 4)] (Array.mk [(.int .i64 0), (.int .i64 0), (.string ByteArray.empty), (.bool false), (.bool false), (.string ByteArray.empty), (.string ByteArray.empty), (.int .i64 0), (.int .i64 0), (.bool false)]) [1, 1, 1, 1, 1, 1, 1, 1, 1, 1]), (70, .st 10 [(0, 3), (1, 3), (2, 9), (3, 4), (4, 4), (5, 9), (6, 9), (7, 3), (8, 3), (9, 4)] (Array.mk [(.int .i64 0), (.int .i64 0), (.string ByteArray.empty), (.bool false), (.bool false), (.string ByteArray.empty), (.string ByteArray.empty), (.int .i64 0), (.int .i64 0), (.bool false)]) [1, 1, 1, 1, 1, 1, 1, 1, 1, 1]), (71, .st 11 [(0, 3), (1, 70)] (Array.mk [(.int .i64 0), (.int .i64 0), (.int .i64 0), (.string ByteArray.empty), (.bool false), (.bool false), (.string ByteArray.empty), (.string ByteArray.empty), (.int .i64 0), (.int .i64 0), (.bool false)]) [1, 10]), (72, .st 11 [(0, 3), (1, 70)] (Array.mk [(.int .i64 0), (.int .i64 0), (.int .i64 0), (.string ByteArray.empty), (.bool false), (.bool false), (.string ByteArray.empty), (.string ByteArray.empty), (.int .i64 0), (.int .i64 0), (.bool false)]) [1, 10]), (73, .sc .nilFunc), (74, .sc .nilFunc), (75, .ar 60 60 3 1 (Array.mk [(.int .i64 0), (.int .i64 0), (.int .i64 0), (.int .i64 0), (.int .i64 0), (.int .i64 0), (.int .i64 0), (.int .i64 0), (.int .i64 0), (.int .i64 0), (.int .i64 0), (.int .i64 0), (.int .i64 0), (.int .i64 0), (.int .i64 0), (.int .i64 0), (.int .i64 0), (.int .i64 0), (.int .i64 0), (.int .i64 0), (.int .i64 0), (.int .i64 0), (.int .i64 0), (.int .i64 0), (.int .i64 0), (.int .i64 0), (.int .i64 0), (.int .i64 0), (.int .i64 0), (.int .i64 0), (.int .i64 0), (.int .i64 0), (.int .i64 0), (.int .i64 0), (.int .i64 0), (.int .i64 0), (.int .i64 0), (.int .i64 0), (.int .i64 0), (.int .i64 0), (.int .i64 0), (.int .i64 0), (.int .i64 0), (.int .i64 0), (.int .i64 0), (.int .i64 0), (.int .i64 0), (.int .i64 0), (.int .i64 0), (.int .i64 0), (.int .i64 0), (.int .i64 0), (.int .i64 0), (.int .i64 0), (.int .i64 0), (.int .i64 0), (.int .i64 0), (.int .i64 0), (.int .i64 0), (.int .i64 0)])), (76, .sc .nilFunc), (77, .sc .nilFunc), (78, .sc .nilFunc), (79, .sc .nilFunc), (81, .sc .nilFunc), (82, .sc .nilFunc), (83, .sc .nilFunc), (85, .sc .nilFunc), (86, .sc .nilFunc), (87, .sc .nilFunc), (88, .st 2 [(0, 9), (1, 3)] (Array.mk [(.string ByteArray.empty), (.int .i64 0)]) [1, 1]), (89, .st 2 [(0, 9), (1, 3)] (Array.mk [(.string ByteArray.empty), (.int .i64 0)]) [1, 1]), (90, .st 2 [(0, 24)] (Array.mk [(.slice none 0 0), (.int .i64 0)]) [2]), (91, .st 2 [(0, 24)] (Array.mk [(.slice none 0 0), (.int .i64 0)]) [2]), (92, .sc .nilFunc), (93, .sc .nilFunc), (94, .sc .nilFunc), (95, .sc .nilFunc), (96, .sc .nilFunc), (97, .sc .nilFunc), (98, .sc .nilFunc), (99, .sc .nilFunc), (100, .st 2 [(0, 3), (1, 60)] (Array.mk [(.int .i64 0), (.slice none 0 0)]) [1, 1]), (101, .st 2 [(0, 3), (1, 60)] (Array.mk [(.int .i64 0), (.slice none 0 0)]) [1, 1]), (102, .sc (.pointer none)), (104, .sc .nilFunc), (105, .st 9 [(0, 24), (2, 47), (3, 28), (7, 48), (8, 50)] (Array.mk [(.slice none 0 0), (.int .i64 0), (.slice none 0 0), (.slice none 0 0), (.slice none 0 0), (.int .i64 0), (.bool false), (.slice none 0 0), (.slice none 0 0)]) [2, 1, 4, 1, 1]), (106, .st 9 [(0, 24), (2, 47), (3, 28), (7, 48), (8, 50)] (Array.mk [(.slice none 0 0), (.int .i64 0), (.slice none 0 0), (.slice none 0 0), (.slice none 0 0), (.int .i64 0), (.bool false), (.slice none 0 0), (.slice none 0 0)]) [2, 1, 4, 1, 1]), (107, .sc .nilFunc), (108, .sc (.pointer none)), (109, .sc .nilFunc), (110, .sc .nilFunc), (112, .sc (.map none)), (113, .sc .nilFunc), (114, .sc (.map none)), (115, .st 3 [(0, 24), (2, 114)] (Array.mk [(.slice none 0 0), (.int .i64 0), (.map none)]) [2, 1]), (116, .st 3 [(0, 24), (2, 114)] (Array.mk [(.slice none 0 0), (.int .i64 0), (.map none)]) [2, 1]), (117, .sc .nilFunc), (118, .sc .nilFunc), (119, .sc .nilFunc), (120, .sl 201 9 88), (122, .sc .nilFunc), (123, .sc .nilFunc), (124, .sc .nilFunc), (125, .sc .nilFunc), (126, .sc .nilFunc), (128, .sc .nilFunc), (129, .st 2 [(0, 9), (1, 9)] (Array.mk [(.string ByteArray.empty), (.string ByteArray.empty)]) [1, 1]), (130, .st 2 [(0, 9), (1, 9)] (Array.mk [(.string ByteArray.empty), (.string ByteArray.empty)]) [1, 1]), (132, .sc .nilFunc), (133, .sc .nilFunc), (134, .sc (.map none)), (135, .sc (.map none)), (136, .st 2 [(0, 134), (1, 135)] (Array.mk [(.map none), (.map none)]) [1, 1]), (137, .st 2 [(0, 134), (1, 135)] (Array.mk [(.map none), (.map none)]) [1, 1]), (139, .sc .nilFunc), (141, .sc .nilFunc), (142, .sc .nilFunc), (143, .sc .nilFunc), (144, .sc .nilFunc), (145, .sc .nilFunc), (146, .sc .nilFunc), (147, .sc .nilFunc), (148, .sc .nilFunc), (149, .sc .nilFunc), (150, .sc .nilFunc), (151, .sc .nilFunc), (152, .sc .nilFunc), (153, .sc .nilFunc), (154, .sc .nilFunc), (155, .sc .nilFunc), (156, .sc .nilFunc), (157, .sc .nilFunc), (158, .sc .nilIface), (159, .sc .nilIface), (160, .sc .nilFunc), (161, .sc .nilFunc), (162, .sc (.pointer none)), (163, .sc .nilFunc), (164, .sc .nilFunc), (165, .sc .nilFunc), (166, .sc .nilFunc), (167, .sc .nilFunc), (169, .sc .nilFunc), (170, .sc .nilFunc), (171, .sc (.pointer none)), (172, .sc .nilFunc), (173, .st 5 [(0, 24), (2, 3), (3, 9), (4, 4)] (Array.mk [(.slice none 0 0), (.int .i64 0), (.int .i64 0), (.string ByteArray.empty), (.bool false)]) [2, 1, 1, 1]), (174, .st 5 [(0, 24), (2, 3), (3, 9), (4, 4)] (Array.mk [(.slice none 0 0), (.int .i64 0), (.int .i64 0), (.string ByteArray.empty), (.bool false)]) [2, 1, 1, 1]), (175, .sc .nilFunc), (176, .sc .nilFunc), (177, .sc .nilFunc), (178, .sc .nilFunc), (179, .sc .nilFunc), (180, .sc .nilFunc), (181, .sc .nilFunc), (182, .sl 5 1 1), (183, .sc .nilFunc), (185, .sc .nilFunc), (186, .sc .nilFunc), (187, .st 3 [(0, 24), (2, 120)] (Array.mk [(.slice none 0 0), (.int .i64 0), (.slice none 0 0)]) [2, 1]), (188, .st 3 [(0, 24), (2, 120)] (Array.mk [(.slice none 0 0), (.int .i64 0), (.slice none 0 0)]) [2, 1]), (189, .st 1 [(0, 33)] (Array.mk [(.int .i64 0)]) [1]), (190, .st 1 [(0, 33)] (Array.mk [(.int .i64 0)]) [1]), (191, .st 2 [(0, 9), (1, 159)] (Array.mk [(.string ByteArray.empty), .nilIface]) [1, 1]), (192, .st 2 [(0, 9), (1, 159)] (Array.mk [(.string ByteArray.empty), .nilIface]) [1, 1]), (193, .st 5 [(0, 24), (2, 3), (3, 3), (4, 3)] (Array.mk [(.slice none 0 0), (.int .i64 0), (.int .i64 0), (.int .i64 0), (.int .i64 0)]) [2, 1, 1, 1]), (194, .st 5 [(0, 24), (2, 3), (3, 3), (4, 3)] (Array.mk [(.slice none 0 0), (.int .i64 0), (.int .i64 0), (.int .i64 0), (.int .i64 0)]) [2, 1, 1, 1]), (195, .sc .nilFunc), (196, .sc .nilFunc), (197, .sc .nilFunc), (198, .sc .nilFunc), (199, .sc .nilFunc), (200, .st 9 [(0, 3), (1, 3), (2, 3), (3, 3), (4, 9), (5, 4), (6, 4), (7, 9), (8, 9)] (Array.mk [(.int .i64 0), (.int .i64 0), (.int .i64 0), (.int .i64 0), (.string ByteArray.empty), (.bool false), (.bool false), (.string ByteArray.empty), (.string ByteArray.empty)]) [1, 1, 1, 1, 1, 1, 1, 1, 1]), (201, .st 9 [(0, 3), (1, 3), (2, 3), (3, 3), (4, 9), (5, 4), (6, 4), (7, 9), (8, 9)] (Array.mk [(.int .i64 0), (.int .i64 0), (.int .i64 0), (.int .i64 0), (.string ByteArray.empty), (.bool false), (.bool false), (.string ByteArray.empty), (.string ByteArray.empty)]) [1, 1, 1, 1, 1, 1, 1, 1, 1]), (202, .sc .nilFunc), (203, .sc .nilFunc), (204, .sc (.map none)), (205, .sc .nilFunc), (206, .sc .nilFunc), (207, .sc .nilFunc), (208, .sc .nilFunc), (209, .sc .nilFunc), (210, .sc .nilFunc), (211, .sc .nilFunc), (212, .sc .nilFunc), (213, .sc .nilFunc), (214, .sc .nilFunc), (215, .sc (.pointer none)), (216, .sc .nilFunc), (217, .sc .nilFunc), (218, .sc .nilFunc), (219, .sc .nilFunc), (220, .sc .nilFunc), (221, .sc (.pointer none)), (222, .st 2 [(0, 221), (1, 182)] (Array.mk [(.pointer none), (.slice none 0 0)]) [1, 1]), (223, .st 2 [(0, 221), (1, 182)] (Array.mk [(.pointer none), (.slice none 0 0)]) [1, 1]), (224, .sc .nilFunc), (225, .sc .nilFunc), (227, .sc .nilFunc), (232, .sc .nilFunc), (233, .sc .nilIface), (235, .sc .nilFunc), (237, .sc .nilFunc), (238, .sc .nilFunc), (239, .sc .nilFunc), (240, .sc (.pointer none)), (241, .sc .nilFunc), (242, .sc (.int .u64 0)), (243, .sl 245 2 16), (244, .st 2 [(0, 3), (1, 3)] (Array.mk [(.int .i64 0), (.int .i64 0)]) [1, 1]), (245, .st 2 [(0, 3), (1, 3)] (Array.mk [(.int .i64 0), (.int .i64 0)]) [1, 1]), (246, .sc (.int .u32 0)), (247, .sc .nilFunc), (248, .sc (.pointer none)), (249, .st 1 [(0, 17)] (Array.mk [(.pointer none)]) [1]), (251, .sc (.pointer none)), (252, .sc .nilFunc), (253, .sc .nilFunc), (254, .sc .nilFunc), (255, .sc .nilIface), (257, .sc .nilFunc), (258, .sc .nilIface), (259, .sc .nilFunc), (260, .sc .nilIface), (261, .sl 159 1 16), (262, .sc .nilFunc), (263, .sc .nilFunc), (264, .sc .nilFunc), (266, .sc .nilFunc), (267, .sl 273 3 6), (268, .sl 276 3 12), (269, .st 3 [(0, 267), (1, 268), (2, 3)] (Array.mk [(.slice none 0 0), (.slice none 0 0), (.int .i64 0)]) [1, 1, 1]), (270, .st 3 [(0, 267), (1, 268), (2, 3)] (Array.mk [(.slice none 0 0), (.slice none 0 0), (.int .i64 0)]) [1, 1, 1]), (271, .sc (.int .u16 0)), (272, .st 3 [(0, 271), (1, 271), (2, 271)] (Array.mk [(.int .u16 0), (.int .u16 0), (.int .u16 0)]) [1, 1, 1]), (273, .st 3 [(0, 271), (1, 271), (2, 271)] (Array.mk [(.int .u16 0), (.int .u16 0), (.int .u16 0)]) [1, 1, 1]), (274, .sc .nilFunc), (275, .st 3 [(0, 246), (1, 246), (2, 246)] (Array.mk [(.int .u32 0), (.int .u32 0), (.int .u32 0)]) [1, 1, 1]), (276, .st 3 [(0, 246), (1, 246), (2, 246)] (Array.mk [(.int .u32 0), (.int .u32 0), (.int .u32 0)]) [1, 1, 1]), (277, .sc .nilFunc), (278, .sc (.pointer none)), (279, .sc (.pointer none)), (285, .sc .nilFunc), (287, .sc .nilFunc), (290, .st 11 [(0, 12), (1, 12), (2, 246), (3, 286), (4, 5), (5, 5), (6, 236), (7, 287), (8, 240), (9, 288), (10, 289)] (Array.mk [(.int .u64 0), (.int .u64 0), (.int .u32 0), (.int .u8 0), (.int .u8 0), (.int .u8 0), (.int .u8 0), .nilFunc, (.pointer none), (.int .i32 0), (.int .i32 0)]) [1, 1, 1, 1, 1, 1, 1, 1, 1, 1, 1]), (292, .st 7 [(0, 3), (1, 3), (2, 3), (3, 3), (4, 9), (5, 9), (6, 4)] (Array.mk [(.int .i64 0), (.int .i64 0), (.int .i64 0), (.int .i64 0), (.string ByteArray.empty), (.string ByteArray.empty), (.bool false)]) [1, 1, 1, 1, 1, 1, 1]), (293, .st 7 [(0, 3), (1, 3), (2, 3), (3, 3), (4, 9), (5, 9), (6, 4)] (Array.mk [(.int .i64 0), (.int .i64 0), (.int .i64 0), (.int .i64 0), (.string ByteArray.empty), (.string ByteArray.empty), (.bool false)]) [1, 1, 1, 1, 1, 1, 1]), (294, .sc .nilFunc), (295, .sc .nilFunc), (296, .st 2 [(0, 9), (1, 236)] (Array.mk [(.string ByteArray.empty), (.int .u8 0)]) [1, 1]), (298, .sc (.pointer none)), (299, .sc .nilFunc), (302, .sl 305 4 16), (304, .st 4 [(0, 288), (1, 289), (2, 303), (3, 303)] (Array.mk [(.int .i32 0), (.int .i32 0), (.int .i32 0), (.int .i32 0)]) [1, 1, 1, 1]), (306, .sc (.pointer none))]
theorem G_good : G.Good Tryz.prog := List.forall_mem_cons.2 ⟨g1, List.forall_mem_cons.2 ⟨g2, List.forall_mem_cons.2 ⟨g3, List.forall_mem_cons.2 ⟨g4, List.forall_mem_cons.2 ⟨g5, List.forall_mem_cons.2 ⟨g9, List.forall_mem_cons.2 ⟨g12, List.forall_mem_cons.2 ⟨g15, List.forall_mem_cons.2 ⟨g16, List.forall_mem_cons.2 ⟨g17, List.forall_mem_cons.2 ⟨g20, List.forall_mem_cons.2 ⟨g21, List.forall_mem_cons.2 ⟨g22, List.forall_mem_cons.2 ⟨g23, List.forall_mem_cons.2 ⟨g24, List.forall_mem_cons.2 ⟨g25, List.forall_mem_cons.2 ⟨g26, List.forall_mem_cons.2 ⟨g27, List.forall_mem_cons.2 ⟨g28, List.forall_mem_cons.2 ⟨g29, List.forall_mem_cons.2 ⟨g30, List.forall_mem_cons.2 ⟨g31, List.forall_mem_cons.2 ⟨g32, List.forall_mem_cons.2 ⟨g33, List.forall_mem_cons.2 ⟨g35, List.forall_mem_cons.2 ⟨g36, List.forall_mem_cons.2 ⟨g37, List.forall_mem_cons.2 ⟨g38, List.forall_mem_cons.2 ⟨g39, List.forall_mem_cons.2 ⟨g40, List.forall_mem_cons.2 ⟨g41, List.forall_mem_cons.2 ⟨g42, List.forall_mem_cons.2 ⟨g43, List.forall_mem_cons.2 ⟨g44, List.forall_mem_cons.2 ⟨g45, List.forall_mem_cons.2 ⟨g46, List.forall_mem_cons.2 ⟨g47, List.forall_mem_cons.2 ⟨g48, List.forall_mem_cons.2 ⟨g49, List.forall_mem_cons.2 ⟨g50, List.forall_mem_cons.2 ⟨g52, List.forall_mem_cons.2 ⟨g53, List.forall_mem_cons.2 ⟨g54, List.forall_mem_cons.2 ⟨g55, List.forall_mem_cons.2 ⟨g56, List.forall_mem_cons.2 ⟨g57, List.forall_mem_cons.2 ⟨g58, List.forall_mem_cons.2 ⟨g59, List.forall_mem_cons.2 ⟨g60, List.forall_mem_cons.2 ⟨g61, List.forall_mem_cons.2 ⟨g62, List.forall_mem_cons.2 ⟨g63, List.forall_mem_cons.2 ⟨g65, List.forall_mem_cons.2 ⟨g66, List.forall_mem_cons.2 ⟨g67, List.forall_mem_cons.2 ⟨g68, List.forall_mem_cons.2 ⟨g69, List.forall_mem_cons.2 ⟨g70, List.forall_mem_cons.2 ⟨g71, List.forall_mem_cons.2 ⟨g72, List.forall_mem_cons.2 ⟨g73, List.forall_mem_cons.2 ⟨g74, List.forall_mem_cons.2 ⟨g75, List.forall_mem_cons.2 ⟨g76, List.forall_mem_cons.2 ⟨g77, List.forall_mem_cons.2 ⟨g78, List.forall_mem_cons.2 ⟨g79, List.forall_mem_cons.2 ⟨g81, List.forall_mem_cons.2 ⟨g82, List.forall_mem_cons.2 ⟨g83, List.forall_mem_cons.2 ⟨g85, List.forall_mem_cons.2 ⟨g86, List.forall_mem_cons.2 ⟨g87, List.forall_mem_cons.2 ⟨g88, List.forall_mem_cons.2 ⟨g89, List.forall_mem_cons.2 ⟨g90, List.forall_mem_cons.2 ⟨g91, List.forall_mem_cons.2 ⟨g92, List.forall_mem_cons.2 ⟨g93, List.forall_mem_cons.2 ⟨g94, List.forall_mem_cons.2 ⟨g95, List.forall_mem_cons.2 ⟨g96, List.forall_mem_cons.2 ⟨g97, List.forall_mem_cons.2 ⟨g98, List.forall_mem_cons.2 ⟨g99, List.forall_mem_cons.2 ⟨g100, List.forall_mem_cons.2 ⟨g101, List.forall_mem_cons.2 ⟨g102, List.forall_mem_cons.2 ⟨g104, List.forall_mem_cons.2 ⟨g105, List.forall_mem_cons.2 ⟨g106, List.forall_mem_cons.2 ⟨g107, List.forall_mem_cons.2 ⟨g108, List.forall_mem_cons.2 ⟨g109, List.forall_mem_cons.2 ⟨g110, List.forall_mem_cons.2 ⟨g112, List.forall_mem_cons.2 ⟨g113, List.forall_mem_cons.2 ⟨g114, List.forall_mem_cons.2 ⟨g115, List.forall_mem_cons.2 ⟨g116, List.forall_mem_cons.2 ⟨g117, List.forall_mem_cons.2 ⟨g118, List.forall_mem_cons.2 ⟨g119, List.forall_mem_cons.2 ⟨g120, List.forall_mem_cons.2 ⟨g122, List.forall_mem_cons.2 ⟨g123, List.forall_mem_cons.2 ⟨g124, List.forall_mem_cons.2 ⟨g125, List.forall_mem_cons.2 ⟨g126, List.forall_mem_cons.2 ⟨g128, List.forall_mem_cons.2 ⟨g129, List.forall_mem_cons.2 ⟨g130, List.forall_mem_cons.2 ⟨g132, List.forall_mem_cons.2 ⟨g133, List.forall_mem_cons.2 ⟨g134, List.forall_mem_cons.2 ⟨g135, List.forall_mem_cons.2 ⟨g136, List.forall_mem_cons.2 ⟨g137, List.forall_mem_cons.2 ⟨g139, List.forall_mem_cons.2 ⟨g141, List.forall_mem_cons.2 ⟨g142, List.forall_mem_cons.2 ⟨g143, List.forall_mem_cons.2 ⟨g144, List.forall_mem_cons.2 ⟨g145, List.forall_mem_cons.2 ⟨g146, List.forall_mem_cons.2 ⟨g147, List.forall_mem_cons.2 ⟨g148, List.forall_mem_cons.2 ⟨g149, List.forall_mem_cons.2 ⟨g150, List.forall_mem_cons.2 ⟨g151, List.forall_mem_cons.2 ⟨g152, List.forall_mem_cons.2 ⟨g153, List.forall_mem_cons.2 ⟨g154, List.forall_mem_cons.2 ⟨g155, List.forall_mem_cons.2 ⟨g156, List.forall_mem_cons.2 ⟨g157, List.forall_mem_cons.2 ⟨g158, List.forall_mem_cons.2 ⟨g159, List.forall_mem_cons.2 ⟨g160, List.forall_mem_cons.2 ⟨g161, List.forall_mem_cons.2 ⟨g162, List.forall_mem_cons.2 ⟨g163, List.forall_mem_cons.2 ⟨g164, List.forall_mem_cons.2 ⟨g165, List.forall_mem_cons.2 ⟨g166, List.forall_mem_cons.2 ⟨g167, List.forall_mem_cons.2 ⟨g169, List.forall_mem_cons.2 ⟨g170, List.forall_mem_cons.2 ⟨g171, List.forall_mem_cons.2 ⟨g172, List.forall_mem_cons.2 ⟨g173, List.forall_mem_cons.2 ⟨g174, List.forall_mem_cons.2 ⟨g175, List.forall_mem_cons.2 ⟨g176, List.forall_mem_cons.2 ⟨g177, List.forall_mem_cons.2 ⟨g178, List.forall_mem_cons.2 ⟨g179, List.forall_mem_cons.2 ⟨g180, List.forall_mem_cons.2 ⟨g181, List.forall_mem_cons.2 ⟨g182, List.forall_mem_cons.2 ⟨g183, List.forall_mem_cons.2 ⟨g185, List.forall_mem_cons.2 ⟨g186, List.forall_mem_cons.2 ⟨g187, List.forall_mem_cons.2 ⟨g188, List.forall_mem_cons.2 ⟨g189, List.forall_mem_cons.2 ⟨g190, List.forall_mem_cons.2 ⟨g191, List.forall_mem_cons.2 ⟨g192, List.forall_mem_cons.2 ⟨g193, List.forall_mem_cons.2 ⟨g194, List.forall_mem_cons.2 ⟨g195, List.forall_mem_cons.2 ⟨g196, List.forall_mem_cons.2 ⟨g197, List.forall_mem_cons.2 ⟨g198, List.forall_mem_cons.2 ⟨g199, List.forall_mem_cons.2 ⟨g200, List.forall_mem_cons.2 ⟨g201, List.forall_mem_cons.2 ⟨g202, List.forall_mem_cons.2 ⟨g203, List.forall_mem_cons.2 ⟨g204, List.forall_mem_cons.2 ⟨g205, List.forall_mem_cons.2 ⟨g206, List.forall_mem_cons.2 ⟨g207, List.forall_mem_cons.2 ⟨g208, List.forall_mem_cons.2 ⟨g209, List.forall_mem_cons.2 ⟨g210, List.forall_mem_cons.2 ⟨g211, List.forall_mem_cons.2 ⟨g212, List.forall_mem_cons.2 ⟨g213, List.forall_mem_cons.2 ⟨g214, List.forall_mem_cons.2 ⟨g215, List.forall_mem_cons.2 ⟨g216, List.forall_mem_cons.2 ⟨g217, List.forall_mem_cons.2 ⟨g218, List.forall_mem_cons.2 ⟨g219, List.forall_mem_cons.2 ⟨g220, List.forall_mem_cons.2 ⟨g221, List.forall_mem_cons.2 ⟨g222, List.forall_mem_cons.2 ⟨g223, List.forall_mem_cons.2 ⟨g224, List.forall_mem_cons.2 ⟨g225, List.forall_mem_cons.2 ⟨g227, List.forall_mem_cons.2 ⟨g232, List.forall_mem_cons.2 ⟨g233, List.forall_mem_cons.2 ⟨g235, List.forall_mem_cons.2 ⟨g237, List.forall_mem_cons.2 ⟨g238, List.forall_mem_cons.2 ⟨g239, List.forall_mem_cons.2 ⟨g240, List.forall_mem_cons.2 ⟨g241, List.forall_mem_cons.2 ⟨g242, List.forall_mem_cons.2 ⟨g243, List.forall_mem_cons.2 ⟨g244, List.forall_mem_cons.2 ⟨g245, List.forall_mem_cons.2 ⟨g246, List.forall_mem_cons.2 ⟨g247, List.forall_mem_cons.2 ⟨g248, List.forall_mem_cons.2 ⟨g249, List.forall_mem_cons.2 ⟨g251, List.forall_mem_cons.2 ⟨g252, List.forall_mem_cons.2 ⟨g253, List.forall_mem_cons.2 ⟨g254, List.forall_mem_cons.2 ⟨g255, List.forall_mem_cons.2 ⟨g257, List.forall_mem_cons.2 ⟨g258, List.forall_mem_cons.2 ⟨g259, List.forall_mem_cons.2 ⟨g260, List.forall_mem_cons.2 ⟨g261, List.forall_mem_cons.2 ⟨g262, List.forall_mem_cons.2 ⟨g263, List.forall_mem_cons.2 ⟨g264, List.forall_mem_cons.2 ⟨g266, List.forall_mem_cons.2 ⟨g267, List.forall_mem_cons.2 ⟨g268, List.forall_mem_cons.2 ⟨g269, List.forall_mem_cons.2 ⟨g270, List.forall_mem_cons.2 ⟨g271, List.forall_mem_cons.2 ⟨g272, List.forall_mem_cons.2 ⟨g273, List.forall_mem_cons.2 ⟨g274, List.forall_mem_cons.2 ⟨g275, List.forall_mem_cons.2 ⟨g276, List.forall_mem_cons.2 ⟨g277, List.forall_mem_cons.2 ⟨g278, List.forall_mem_cons.2 ⟨g279, List.forall_mem_cons.2 ⟨g285, List.forall_mem_cons.2 ⟨g287, List.forall_mem_cons.2 ⟨g290, List.forall_mem_cons.2 ⟨g292, List.forall_mem_cons.2 ⟨g293, List.forall_mem_cons.2 ⟨g294, List.forall_mem_cons.2 ⟨g295, List.forall_mem_cons.2 ⟨g296, List.forall_mem_cons.2 ⟨g298, List.forall_mem_cons.2 ⟨g299, List.forall_mem_cons.2 ⟨g302, List.forall_mem_cons.2 ⟨g304, List.forall_mem_cons.2 ⟨g306, (fun _ h => by simp at h)⟩⟩⟩⟩⟩⟩⟩⟩⟩⟩⟩⟩⟩⟩⟩⟩⟩⟩⟩⟩⟩⟩⟩⟩⟩⟩⟩⟩⟩⟩⟩⟩⟩⟩⟩⟩⟩⟩⟩⟩⟩⟩⟩⟩⟩⟩⟩⟩⟩⟩⟩⟩⟩⟩⟩⟩⟩⟩⟩⟩⟩⟩⟩⟩⟩⟩⟩⟩⟩⟩⟩⟩⟩⟩⟩⟩⟩⟩⟩⟩⟩⟩⟩⟩⟩⟩⟩⟩⟩⟩⟩⟩⟩⟩⟩⟩⟩⟩⟩⟩⟩⟩⟩⟩⟩⟩⟩⟩⟩⟩⟩⟩⟩⟩⟩⟩⟩⟩⟩⟩⟩⟩⟩⟩⟩⟩⟩⟩⟩⟩⟩⟩⟩⟩⟩⟩⟩⟩⟩⟩⟩⟩⟩⟩⟩⟩⟩⟩⟩⟩⟩⟩⟩⟩⟩⟩⟩⟩⟩⟩⟩⟩⟩⟩⟩⟩⟩⟩⟩⟩⟩⟩⟩⟩⟩⟩⟩⟩⟩⟩⟩⟩⟩⟩⟩⟩⟩⟩⟩⟩⟩⟩⟩⟩⟩⟩⟩⟩⟩⟩⟩⟩⟩⟩⟩⟩⟩⟩⟩⟩⟩⟩⟩⟩⟩⟩⟩⟩⟩⟩⟩⟩⟩⟩⟩⟩⟩⟩⟩⟩⟩⟩⟩⟩⟩⟩⟩⟩⟩⟩⟩⟩⟩⟩⟩⟩⟩⟩⟩⟩⟩⟩⟩⟩⟩⟩⟩⟩⟩
theorem c3 : Callable Tryz.prog 3 := fun _ _ => by kernel_rfl
theorem c4 : Callable Tryz.prog 4 := fun _ _ => by kernel_rfl
theorem c5 : Callable Tryz.prog 5 := fun _ _ => by kernel_rfl
theorem c6 : Callable Tryz.prog 6 := fun _ _ => by kernel_rfl
theorem c12 : Callable Tryz.prog 12 := fun _ _ => by kernel_rfl
theorem c13 : Callable Tryz.prog 13 := fun _ _ => by kernel_rfl
theorem c14 : Callable Tryz.prog 14 := fun _ _ => by kernel_rfl
theorem c15 : Callable Tryz.prog 15 := fun _ _ => by kernel_rfl
theorem c16 : Callable Tryz.prog 16 := fun _ _ => by kernel_rfl
theorem c17 : Callable Tryz.prog 17 := fun _ _ => by kernel_rfl
theorem c18 : Callable Tryz.prog 18 := fun _ _ => by kernel_rfl
theorem c19 : Callable Tryz.prog 19 := fun _ _ => by kernel_rfl
theorem c20 : Callable Tryz.prog 20 := fun _ _ => by kernel_rfl
theorem c21 : Callable Tryz.prog 21 := fun _ _ => by kernel_rfl
theorem c29 : Callable Tryz.prog 29 := fun _ _ => by kernel_rfl
theorem c45 : Callable Tryz.prog 45 := fun _ _ => by kernel_rfl
theorem c51 : Callable Tryz.prog 51 := fun _ _ => by kernel_rfl
theorem c52 : Callable Tryz.prog 52 := fun _ _ => by kernel_rfl
theorem c53 : Callable Tryz.prog 53 := fun _ _ => by kernel_rfl
theorem c55 : Callable Tryz.prog 55 := fun _ _ => by kernel_rfl
theorem c56 : Callable Tryz.prog 56 := fun _ _ => by kernel_rfl
theorem c57 : Callable Tryz.prog 57 := fun _ _ => by kernel_rfl
theorem c58 : Callable Tryz.prog 58 := fun _ _ => by kernel_rfl
theorem c59 : Callable Tryz.prog 59 := fun _ _ => by kernel_rfl
theorem c60 : Callable Tryz.prog 60 := fun _ _ => by kernel_rfl
theorem c61 : Callable Tryz.prog 61 := fun _ _ => by kernel_rfl
theorem c62 : Callable Tryz.prog 62 := fun _ _ => by kernel_rfl
theorem c63 : Callable Tryz.prog 63 := fun _ _ => by kernel_rfl
theorem c79 : Callable Tryz.prog 79 := fun _ _ => by kernel_rfl
theorem c89 : Callable Tryz.prog 89 := fun _ _ => by kernel_rfl
theorem c90 : Callable Tryz.prog 90 := fun _ _ => by kernel_rfl
theorem c91 : Callable Tryz.prog 91 := fun _ _ => by kernel_rfl
theorem c92 : Callable Tryz.prog 92 := fun _ _ => by kernel_rfl
theorem c98 : Callable Tryz.prog 98 := fun _ _ => by kernel_rfl
theorem c99 : Callable Tryz.prog 99 := fun _ _ => by kernel_rfl
theorem c100 : Callable Tryz.prog 100 := fun _ _ => by kernel_rfl
theorem c101 : Callable Tryz.prog 101 := fun _ _ => by kernel_rfl
theorem c102 : Callable Tryz.prog 102 := fun _ _ => by kernel_rfl
theorem c103 : Callable Tryz.prog 103 := fun _ _ => by kernel_rfl
theorem c104 : Callable Tryz.prog 104 := fun _ _ => by kernel_rfl
theorem c105 : Callable Tryz.prog 105 := fun _ _ => by kernel_rfl
theorem c106 : Callable Tryz.prog 106 := fun _ _ => by kernel_rfl
theorem c107 : Callable Tryz.prog 107 := fun _ _ => by kernel_rfl
theorem c120 : Callable Tryz.prog 120 := fun _ _ => by kernel_rfl
theorem c123 : Callable Tryz.prog 123 := fun _ _ => by kernel_rfl
theorem c130 : Callable Tryz.prog 130 := fun _ _ => by kernel_rfl
theorem c133 : Callable Tryz.prog 133 := fun _ _ => by kernel_rfl
theorem c134 : Callable Tryz.prog 134 := fun _ _ => by kernel_rfl
theorem c136 : Callable Tryz.prog 136 := fun _ _ => by kernel_rfl
theorem c137 : Callable Tryz.prog 137 := fun _ _ => by kernel_rfl
theorem c139 : Callable Tryz.prog 139 := fun _ _ => by kernel_rfl
theorem c140 : Callable Tryz.prog 140 := fun _ _ => by kernel_rfl
theorem c141 : Callable Tryz.prog 141 := fun _ _ => by kernel_rfl
theorem c142 : Callable Tryz.prog 142 := fun _ _ => by kernel_rfl
theorem c143 : Callable Tryz.prog 143 := fun _ _ => by kernel_rfl
theorem c144 : Callable Tryz.prog 144 := fun _ _ => by kernel_rfl
theorem c145 : Callable Tryz.prog 145 := fun _ _ => by kernel_rfl
theorem c147 : Callable Tryz.prog 147 := fun _ _ => by kernel_rfl
theorem c148 : Callable Tryz.prog 148 := fun _ _ => by kernel_rfl
theorem c150 : Callable Tryz.prog 150 := fun _ _ => by kernel_rfl
theorem c152 : Callable Tryz.prog 152 := fun _ _ => by kernel_rfl
theorem c155 : Callable Tryz.prog 155 := fun _ _ => by kernel_rfl
theorem c165 : Callable Tryz.prog 165 := fun _ _ => by kernel_rfl
theorem c166 : Callable Tryz.prog 166 := fun _ _ => by kernel_rfl
theorem c167 : Callable Tryz.prog 167 := fun _ _ => by kernel_rfl
theorem c168 : Callable Tryz.prog 168 := fun _ _ => by kernel_rfl
theorem c169 : Callable Tryz.prog 169 := fun _ _ => by kernel_rfl
theorem c176 : Callable Tryz.prog 176 := fun _ _ => by kernel_rfl
theorem c177 : Callable Tryz.prog 177 := fun _ _ => by kernel_rfl
theorem c178 : Callable Tryz.prog 178 := fun _ _ => by kernel_rfl
theorem c180 : Callable Tryz.prog 180 := fun _ _ => by kernel_rfl
theorem c192 : Callable Tryz.prog 192 := fun _ _ => by kernel_rfl
theorem c208 : Callable Tryz.prog 208 := fun _ _ => by kernel_rfl
theorem c220 : Callable Tryz.prog 220 := fun _ _ => by kernel_rfl
theorem c54 : Callable Tryz.prog 54 := fun _ _ => by kernel_rfl
theorem c93 : Callable Tryz.prog 93 := fun _ _ => by kernel_rfl
theorem c94 : Callable Tryz.prog 94 := fun _ _ => by kernel_rfl
theorem c95 : Callable Tryz.prog 95 := fun _ _ => by kernel_rfl
theorem c96 : Callable Tryz.prog 96 := fun _ _ => by kernel_rfl
theorem c97 : Callable Tryz.prog 97 := fun _ _ => by kernel_rfl
theorem c122 : Callable Tryz.prog 122 := fun _ _ => by kernel_rfl
theorem c138 : Callable Tryz.prog 138 := fun _ _ => by kernel_rfl
theorem c146 : Callable Tryz.prog 146 := fun _ _ => by kernel_rfl
theorem c149 : Callable Tryz.prog 149 := fun _ _ => by kernel_rfl
theorem c171 : Callable Tryz.prog 171 := fun _ _ => by kernel_rfl
theorem c172 : Callable Tryz.prog 172 := fun _ _ => by kernel_rfl
theorem c173 : Callable Tryz.prog 173 := fun _ _ => by kernel_rfl
theorem c174 : Callable Tryz.prog 174 := fun _ _ => by kernel_rfl
theorem c175 : Callable Tryz.prog 175 := fun _ _ => by kernel_rfl
theorem c193 : Callable Tryz.prog 193 := fun _ _ => by kernel_rfl
theorem c194 : Callable Tryz.prog 194 := fun _ _ => by kernel_rfl
theorem c195 : Callable Tryz.prog 195 := fun _ _ => by kernel_rfl
theorem c209 : Callable Tryz.prog 209 := fun _ _ => by kernel_rfl
theorem mt74 : MapTy Tryz.prog 135 (.int .i64) (.int .i64 0) := ⟨3, 3, by kernel_rfl, by kernel_rfl, fun w => Tryz.zeroValue3 w⟩
end Go.Proofs.Heir
end
section
set_option linter.unusedSimpArgs false
set_option linter.unusedVariables false
namespace Go.Proofs.Heir
open Go.Am
set_option maxRecDepth 100000
set_option maxHeartbeats 8000000
def smallC (c : Int) : Bool := decide (97 ≤ c) && decide (c ≤ 122)
def capC (c : Int) : Bool := decide (65 ≤ c) && decide (c ≤ 90)
def signC (c : Int) : Bool := smallC c || capC c || (decide (48 ≤ c) && decide (c ≤ 57)) || decide (c = 45) || decide (c = 95) || decide (c = 46)
@[reducible] def eRune (c : Int) : AV := .lit (.int .i32 c)
@[reducible] def eBool (b : Bool) : AV := .lit (.bool b)
@[reducible] def eStr (s : ByteArray) : AV := .lit (.string s)
@[reducible] def eInt (n : Int) : AV := .lit (.int .i64 n)
theorem f140_ok (c : Int) : FnOK Tryz.prog 140 [] [eRune c] [] (eBool (smallC c)) := by
  refine FnOK.startC (rvs := [.tmp 2]) G G_good Tryz.func140 rfl Tryz.ntmps140 rfl rfl ?_; with_reducible refine wD ?_
  refine IfK.mk (fun h => ?_) (fun h => ?_) <;> (try simp only [castN] at h) <;> with_reducible refine wK ?_
  · (refine eK ?_ ?_ <;> with_reducible repeat' (first | exact trivial | (show _ ∧ _; refine aK ?_ ?_)))
    unfold smallC
    simp at h; simp [h]
  · (refine eK ?_ ?_ <;> with_reducible repeat' (first | exact trivial | (show _ ∧ _; refine aK ?_ ?_)))
    unfold smallC
    simp at h; simp; omega
theorem f142_ok (c : Int) : FnOK Tryz.prog 142 [] [eRune c] [] (eBool (capC c)) := by
  refine FnOK.startC (rvs := [.tmp 2]) G G_good Tryz.func142 rfl Tryz.ntmps142 rfl rfl ?_; with_reducible refine wD ?_
  refine IfK.mk (fun h => ?_) (fun h => ?_) <;> (try simp only [castN] at h) <;> with_reducible refine wK ?_
  · (refine eK ?_ ?_ <;> with_reducible repeat' (first | exact trivial | (show _ ∧ _; refine aK ?_ ?_)))
    unfold capC
    simp at h; simp [h]
  · (refine eK ?_ ?_ <;> with_reducible repeat' (first | exact trivial | (show _ ∧ _; refine aK ?_ ?_)))
    unfold capC
    simp at h; simp; omega
theorem f177_ok (c : Int) : FnOK Tryz.prog 177 [] [eRune c] [] (eBool (signC c)) := by
  refine FnOK.startC (rvs := [.tmp 2]) G G_good Tryz.func177 rfl Tryz.ntmps177 rfl rfl ?_; with_reducible refine wD ?_
  refine CallK.lit [] (f140_ok c) c140 ⟨rfl, trivial⟩ rfl rfl ?_; with_reducible refine wK ?_
  repeat' (first
    | ((with_reducible show IfK _ _ _ _); first | refine iK ?_ | (refine IfK.mk (fun _ => ?_) (fun _ => ?_) <;> with_reducible refine wK ?_))
    | ((with_reducible show CallK _ _ 142 _ _ _ _); refine CallK.lit [] (f142_ok c) c142 ⟨rfl, trivial⟩ rfl rfl ?_; with_reducible refine wK ?_)
    | ((with_reducible show (_ ∧ _) ∧ _ ∧ _); (refine eK ?_ ?_ <;> with_reducible repeat' (first | exact trivial | (show _ ∧ _; refine aK ?_ ?_)))))
  all_goals (simp_all [signC, smallC, capC] <;> omega)
theorem f176_ok (c : Int) : FnOK Tryz.prog 176 [] [eRune c] [] (eBool (!signC c)) := by
  refine FnOK.startC (rvs := [.tmp 2]) G G_good Tryz.func176 rfl Tryz.ntmps176 rfl rfl ?_; with_reducible refine wD ?_
  refine CallK.lit [] (f177_ok c) c177 ⟨rfl, trivial⟩ rfl rfl ?_; with_reducible refine wK ?_
  (refine eK ?_ ?_ <;> with_reducible repeat' (first | exact trivial | (show _ ∧ _; refine aK ?_ ?_)))
open Go.RowKit Go.Lib in
theorem f197_calls (g : Nat) (eg : ∀ args w, (callFunc g args).run Tryz.prog w = .ok (.enter g args) w) (p : Nat → Bool) (s : ByteArray) (w : World) (ht : Tabs Tryz.prog w fun _ => none) (hp : ∀ (W : World) (x : Nat), (Tabs Tryz.prog W fun _ => none) → x ≤ 1114111 → Calls Tryz.prog g #[.int .i32 (x : Int)] W fun e w' => e = .returned (.bool (p x)) ∧ Below W.heap.size W w') :
    Calls Tryz.prog 197 #[.string s, .func (.func g) #[] #[], .bool true] w fun e w' => e = .returned (.int .i64 (Lib.idxFunc p true s)) ∧ Below w.heap.size w w' := by
  go_enter Tryz.func197, Tryz.ntmps197
  go_wp2
  go_loopg [] s.size (fun gf wx => ∃ pos : Nat, wx.heap[w.heap.size]? = some (.stringIter s pos) ∧ Below w.heap.size w wx ∧ Lib.idxFuncFrom p true s gf pos = Lib.idxFunc p true s ∧ s.size ≤ pos + gf)
  case atStart => exact ⟨0, World.iter_heap w s 0, (Below.refl _ w).alloc (Nat.le_refl _) _, rfl, by omega⟩
  case round =>
    obtain ⟨pos, hit, hbw, hleft, hfu⟩ := hrel
    by_cases hps : pos < s.size
    · obtain ⟨g', rfl⟩ : ∃ g', gk = g' + 1 := ⟨gk - 1, by omega⟩
      have hnx : ∀ ty, (Instr.next (.pointer (some ⟨w.heap.size, 0, none⟩)) true ty).run Tryz.prog wr = _ := fun ty => Lib.run_next_any_at wr w.heap.size s pos ty hit hps
      have hwd := Lib.width_pos s pos
      obtain ⟨R, hR⟩ : ∃ R, (Utf8.decode s pos).1 = R := ⟨_, rfl⟩
      obtain ⟨K, hK⟩ : ∃ K, (Utf8.decode s pos).2 = K := ⟨_, rfl⟩
      simp only [Lib.idxFuncFrom, hps, if_true, hR, hK] at hleft
      rw [hR, hK] at hnx
      rw [hK] at hwd
      have hit2 := Lib.iterAt_heap wr w.heap.size s pos (pos + K) hit
      have hbw2 := Lib.below_iterAt hbw (k := w.heap.size) (Nat.le_refl _) s (pos + K)
      obtain ⟨W, hWd⟩ : ∃ W, wr.iterAt w.heap.size s (pos + K) = W := ⟨_, rfl⟩
      rw [hWd] at hnx hit2 hbw2
      have hltW : w.heap.size < W.heap.size := (Array.getElem?_eq_some_iff.1 hit2).1
      have cS : Calls Tryz.prog g #[.int .i32 (R : Int)] W _   := hp W R (ht.below hbw2) (by rw [← hR]; exact Lib.rune_le s pos)
      clear hp
      cases hsp : p R <;> rw [hsp] at cS <;> simp only [hsp, if_true, Bool.false_eq_true, Bool.true_eq_false, if_false] at hleft
      · go_wp2_with (go_at_fn g; refine cS.mono ?_; rintro e W' ⟨rfl, hbc⟩)
        go_roundg g'
        case measure => omega
        case rel => exact ⟨pos + K, (hbc.block _ hltW).trans hit2, (hbw2.trans (hbc.mono hbw2.size)), hleft, by omega⟩
      · go_wp2_with (go_at_fn g; refine cS.mono ?_; rintro e W' ⟨rfl, hbc⟩)
        go_ret
        exact ⟨by rw [← hleft] <;> rfl, (hbw2.trans (hbc.mono hbw2.size))⟩
    · have hnx : ∀ ty, (Instr.next (.pointer (some ⟨w.heap.size, 0, none⟩)) true ty).run Tryz.prog wr = _ := fun ty => Lib.run_next_end_at wr w.heap.size s pos ty hit hps
      rw [Lib.idxFuncFrom_end p true s gk pos hps] at hleft
      go_wp2
      go_ret
      exact ⟨by rw [← hleft] <;> rfl, hbw⟩
end Go.Proofs.Heir
end
section
set_option linter.unusedSimpArgs false
set_option linter.unusedVariables false
namespace Go.Proofs.Heir
open Go.Am Go.RowKit Go.Lib
set_option maxRecDepth 100000
set_option maxHeartbeats 8000000
def lowB (c : UInt8) : UInt8 := if capC (c.toNat : Int) then c + 32 else c
def lowL (l : List UInt8) : List UInt8 := l.map lowB
def lowS (s : ByteArray) : ByteArray := ⟨(lowL s.data.toList).toArray⟩
def midL (l : List UInt8) (k : Nat) : List UInt8 := (l.take k).map lowB ++ l.drop k
theorem midL_len (l : List UInt8) (k : Nat) : (midL l k).length = l.length := by simp [midL]; omega
theorem midL_get (l : List UInt8) (k : Nat) (h : k < l.length) : (midL l k)[k]? = some l[k] := by
  simp [midL, List.getElem?_append, List.getElem?_drop, Nat.min_eq_left (Nat.le_of_lt h), h]
theorem midL_set (l : List UInt8) (k : Nat) (h : k < l.length) : (midL l k).set k (lowB l[k]) = midL l (k + 1) := by
  unfold midL
  have h1 : ((l.take k).map lowB).length = k := by simp; omega
  rw [List.set_append_right _ _ (by omega), h1, Nat.sub_self, List.take_succ_eq_append_getElem h, List.drop_eq_getElem_cons h]
  simp only [List.set_cons_zero, List.map_append, List.map_cons, List.map_nil, List.append_assoc, List.cons_append, List.nil_append]
theorem midL_skip (l : List UInt8) (k : Nat) (h : k < l.length) (hc : capC (l[k].toNat : Int) = false) : midL l k = midL l (k + 1) := by
  rw [← midL_set l k h]
  have h2 := midL_get l k h
  apply List.ext_getElem?
  intro j
  rw [List.getElem?_set]
  by_cases hj : k = j
  · subst hj
    rw [if_pos rfl, if_pos (by rw [midL_len]; exact h), h2]
    simp [lowB, hc]
  · rw [if_neg hj]
def rowOf (l : List UInt8) (z : List Value) : Array Value := (l.map (fun b => Value.int .u8 b.toNat) ++ z).toArray
theorem rowOf_get (l : List UInt8) (z : List Value) (k : Nat) (b : UInt8) (h : l[k]? = some b) : (rowOf l z)[k]? = some (.int .u8 b.toNat) := by
  have hk := (List.getElem?_eq_some_iff.1 h).1
  simp only [rowOf, List.getElem?_toArray]
  rw [List.getElem?_append_left (by simpa using hk), List.getElem?_map, h]; rfl
theorem rowOf_set (l : List UInt8) (z : List Value) (k : Nat) (b : UInt8) (h : k < l.length) : (rowOf l z).setIfInBounds k (.int .u8 b.toNat) = rowOf (l.set k b) z := by
  apply Array.ext'
  simp only [rowOf, Array.toList_setIfInBounds, List.map_set]
  rw [List.set_append_left _ _ (by simpa using h)]
theorem cap_step (c : UInt8) (h : capC (c.toNat : Int) = true) : IntKind.u8.wrap (IntKind.u8.wrap ((c.toNat : Int) - 65) + 97) = ((c + 32 : UInt8).toNat : Int) := by
  simp only [capC, Bool.and_eq_true, decide_eq_true_eq] at h
  have h1 : IntKind.u8.wrap ((c.toNat : Int) - 65) = (c.toNat : Int) - 65 := by simp [IntKind.wrap_u8]; omega
  rw [h1]
  have h2 : IntKind.u8.wrap ((c.toNat : Int) - 65 + 97) = (c.toNat : Int) + 32 := by simp [IntKind.wrap_u8]; omega
  rw [h2]
  have : (c + 32 : UInt8).toNat = c.toNat + 32 := by
    rw [UInt8.toNat_add]; simp; omega
  rw [this]; rfl
theorem f168_calls (s : ByteArray) (w : World) (ht : Tabs Tryz.prog w fun _ => none) (hs : s.size ≤ 100000) : Calls Tryz.prog 168 #[.string s] w fun e w' => e = .returned (.string (lowS s)) ∧ Below w.heap.size w w' := by
  obtain ⟨l, rfl⟩ : ∃ l : List UInt8, s = ⟨l.toArray⟩ := ⟨s.data.toList, by obtain ⟨⟨l⟩⟩ := s; rfl⟩
  have hsz : (ByteArray.mk l.toArray).size = l.length := by simp [ByteArray.size]
  have hconv := run_bytes_of_string (P := Tryz.prog) w 9 182 5 ⟨l.toArray⟩ Tryz.underlying9 Tryz.underlying182 Tryz.underlying5
  rw [hsz] at hconv hs
  obtain ⟨cap, hcap⟩ : ∃ cap, grownCap w l.length 0 5 = cap := ⟨_, rfl⟩
  rw [hcap] at hconv
  obtain ⟨z, hz⟩ : ∃ z : List Value, bytesRow ⟨l.toArray⟩ cap = rowOf l z := ⟨List.replicate (cap - l.length) (.int .u8 0), by
    apply Array.ext'; simp [bytesRow, rowOf, ByteArray.size]⟩
  rw [hz] at hconv
  obtain ⟨n, hn⟩ : ∃ n, (rowOf l z).size = n := ⟨_, rfl⟩
  rw [hn] at hconv
  clear hcap hz
  go_enter Tryz.func168, Tryz.ntmps168
  go_wp2
  go_loopw [10] (fun i wr => ∃ k : Nat, k ≤ l.length ∧ i = .int .i64 k ∧ wr.heap[w.heap.size]? = some (.cells (rowOf (midL l k) z) 5 (n, n + 1)) ∧ Below w.heap.size w wr) (fun i _ => l.length - (intOf i).toNat)
  case atStart => exact ⟨0, Nat.zero_le _, rfl, (heap_alloc_new w (Obj.cells (rowOf l z) 5 (n, n + 1))), ((Below.refl _ w).alloc (Nat.le_refl _) _).drew⟩
  case round =>
    obtain ⟨k, hk, rfl, hh, hb⟩ := hrel
    by_cases hlt : k < l.length
    · have hcell : wr.cell? ⟨w.heap.size, k, none⟩ = some (.int .u8 (l[k].toNat : Int)) := by
        simp only [World.cell?, hh]
        exact rowOf_get _ z k _ (midL_get l k hlt)
      have hn2 : k < n := by rw [← hn]; simp [rowOf]; omega
      have hfz : wr.frozen? ⟨w.heap.size, k, none⟩ = false := by
        simp [World.frozen?, hh]; omega
      have hbs : w.heap.size < wr.heap.size := (Array.getElem?_eq_some_iff.1 hh).1
      have hb1 : 0 ≤ (l[k].toNat : Int) := Int.natCast_nonneg _
      have hb2 : (l[k].toNat : Int) ≤ 255 := by have := UInt8.toNat_lt l[k]; omega
      cases hc : capC (l[k].toNat : Int) with
      | false =>
        go_wp2_with (go_at_call 142; refine ((f142_ok (l[k].toNat : Int)).below (vs := [.int .i32 (l[k].toNat : Int)]) _ (ht.below hb)).mono ?_; rw [hc]; rintro e w1 ⟨rfl, hb3⟩)
        go_roundw
        case rel => exact ⟨k + 1, by omega, by go_num, by rw [hb3.block _ hbs, hh, midL_skip l k hlt hc], hb.trans (hb3.mono hb.size)⟩
        case measure => simp [intOf]; omega
      | true =>
        have hst : IntKind.u8.wrap (IntKind.u8.wrap ((l[k].toNat : Int) - 65) + 97) = ((lowB l[k]).toNat : Int) := by
          rw [cap_step _ hc]; unfold lowB; rw [hc]; rfl
        simp only [IntKind.wrap_u8] at hst
        have H := hid hst
        clear hst
        go_wp2_with (go_at_call 142; refine ((f142_ok (l[k].toNat : Int)).below (vs := [.int .i32 (l[k].toNat : Int)]) _ (ht.below hb)).mono ?_; rw [hc]; rintro e w1 ⟨rfl, hb3⟩; have hc1 := (hb3.cell (p := ⟨w.heap.size, k, none⟩) hbs).trans hcell; have hf1 := (hb3.frozen (p := ⟨w.heap.size, k, none⟩) hbs).trans hfz)
        go_roundw
        case rel =>
          refine ⟨k + 1, by omega, by go_num, ?_, hb.trans ((hb3.mono hb.size).setCell (Nat.le_refl _) _)⟩
          have hm : ((l[k].toNat : Int) - 65 + 97) % 256 = ((lowB l[k]).toNat : Int) := by
            rw [← H.out]; omega
          rw [hm]
          have hq : w1.heap[w.heap.size]? = some (.cells (rowOf (midL l k) z) 5 (n, n + 1)) := (hb3.block _ hbs).trans hh
          have hs2 : w.heap.size < w1.heap.size := (Array.getElem?_eq_some_iff.1 hq).1
          unfold World.setCell
          simp only [Array.getElem?_modify, hq, if_true, Option.map_some]
          have hrs := rowOf_set (midL l k) z k (lowB l[k]) (by rw [midL_len]; exact hlt)
          rw [midL_set l k hlt] at hrs
          simp only [hrs]; rfl
        case measure => simp [intOf]; omega
    · have : k = l.length := by omega
      subst this
      have hrw : rowOf (midL l l.length) z = rowOf (lowL l) z := by simp [midL, lowL]
      rw [hrw] at hh
      have hcv := run_convert_bytes_back (P := Tryz.prog) wr 182 9 5 ⟨w.heap.size, 0, none⟩ cap (lowL l) Tryz.underlying182 Tryz.underlying5 Tryz.underlying9 (fun j hj => by
        have := rowOf_get (lowL l) z j ((lowL l)[j]) (List.getElem?_eq_getElem hj)
        have ha : (⟨w.heap.size, 0, none⟩ : Addr).add j = ⟨w.heap.size, j, none⟩ := by
          unfold Addr.add; split <;> simp_all
        rw [ha]; simp only [World.cell?, hh, this]; rfl)
      rw [show (lowL l).length = l.length from by simp [lowL]] at hcv
      go_wp2
      go_ret
      exact ⟨rfl, hb⟩
theorem f168_ok (s : ByteArray) (hs : s.size ≤ 100000) : FnOK Tryz.prog 168 [] [eStr s] [] (eStr (lowS s)) :=
  FnOK.of_calls (vs := [.string s]) (v := .string (lowS s)) fun w ht => f168_calls s w ht hs
end Go.Proofs.Heir
end
section
set_option linter.unusedSimpArgs false
set_option linter.unusedVariables false
namespace Go.Proofs.Heir
open Go.Am Go.RowKit Go.Lib
set_option maxRecDepth 100000
set_option maxHeartbeats 8000000
def signB (b : UInt8) : Bool := signC (b.toNat : Int)
def firstB : List UInt8 → Bool
  | [] => false
  | b :: _ => smallC (b.toNat : Int) || capC (b.toNat : Int) || decide ((b.toNat : Int) = 95)
def rightL (l : List UInt8) : Bool := decide (1 ≤ l.length) && decide (l.length ≤ 40) && l.all signB && firstB l
def rightS (s : ByteArray) : Bool := rightL s.data.toList
theorem idx_bad (s : ByteArray) : ∀ (f pos : Nat), s.size ≤ pos + f → (0 ≤ idxFuncFrom (fun r => !signC (r : Int)) true s f pos ↔ ∃ i, pos ≤ i ∧ ∃ b, s.data.toList[i]? = some b ∧ signB b = false)
  | 0, pos, h => by
    have : ¬ (0 : Int) ≤ idxFuncFrom (fun r => !signC (r : Int)) true s 0 pos := by simp [idxFuncFrom]
    refine ⟨fun h' => absurd h' this, ?_⟩
    rintro ⟨i, h1, b, h2, _⟩
    have := (List.getElem?_eq_some_iff.1 h2).1
    have : i < s.size := this
    omega
  | f + 1, pos, h => by
    by_cases hp : pos < s.size
    · have ih := idx_bad s f
      have hb : ∃ b, s.data.toList[pos]? = some b ∧ s.get! pos = b := ⟨_, List.getElem?_eq_getElem hp, by show s.data[pos]! = _; rw [getElem!_pos s.data pos hp]; rfl⟩
      obtain ⟨b, hb1, hb2⟩ := hb
      unfold idxFuncFrom
      rw [if_pos hp, decode_at, hb2]
      have hbn : b.toNat < 256 := UInt8.toNat_lt b
      have big : ∀ r : Nat, 128 ≤ r → signC (r : Int) = false := by
        intro r hr
        have : (128 : Int) ≤ r := by omega
        simp only [signC, smallC, capC, Bool.or_eq_false_iff, Bool.and_eq_false_iff, decide_eq_false_iff_not]
        omega
      have bad : ∀ r w : Nat, 128 ≤ r → 128 ≤ b.toNat → ((0 : Int) ≤ (if (!signC (r : Int)) = true then (pos : Int) else idxFuncFrom (fun r => !signC (r : Int)) true s f (pos + w)) ↔ ∃ i, pos ≤ i ∧ ∃ b, s.data.toList[i]? = some b ∧ signB b = false) := by
        intro r w hr hbr
        rw [big r hr]
        exact ⟨fun _ => ⟨pos, Nat.le_refl _, b, hb1, big _ hbr⟩, fun _ => by simp⟩
      rcases decodeN_shape (s.size - pos) b.toNat (s.get! (pos + 1)).toNat (s.get! (pos + 2)).toNat (s.get! (pos + 3)).toNat with ⟨h1, h2⟩ | ⟨h1, h3, h4, h5, h2⟩ | ⟨h1, h3, h4, h5, h6, h7, h2⟩ | ⟨h1, h3, h4, h5, h6, h7, h8, h2⟩ | h2
      · rw [h2]
        show (0 : Int) ≤ (if (!signC (b.toNat : Int)) = true then (pos : Int) else idxFuncFrom _ true s f (pos + 1)) ↔ _
        cases hs : signC (b.toNat : Int) with
        | false => exact ⟨fun _ => ⟨pos, Nat.le_refl _, b, hb1, hs⟩, fun _ => by simp⟩
        | true =>
          rw [if_neg (by simp), ih (pos + 1) (by omega)]
          constructor
          · rintro ⟨i, h3, h4⟩; exact ⟨i, by omega, h4⟩
          · rintro ⟨i, h3, b', h4, h5⟩
            rcases Nat.lt_or_ge pos i with h6 | h6
            · exact ⟨i, h6, b', h4, h5⟩
            · have : i = pos := by omega
              subst this
              rw [hb1] at h4; cases h4
              rw [signB, hs] at h5; cases h5
      · rw [h2]; exact bad _ _ (by omega) (by omega)
      · rw [h2]; exact bad _ _ (by omega) (by omega)
      · rw [h2]; exact bad _ _ (by omega) (by omega)
      · rw [h2]
        refine bad _ _ (by omega) ?_
        rcases Nat.lt_or_ge b.toNat 128 with h3 | h3
        · rw [decodeN, if_pos h3] at h2; simp only [Prod.mk.injEq] at h2; omega
        · exact h3
    · rw [idxFuncFrom_end _ _ _ _ _ hp]
      refine ⟨fun h' => by omega, ?_⟩
      rintro ⟨i, h1, b, h2, _⟩
      have := (List.getElem?_eq_some_iff.1 h2).1
      have : i < s.size := this
      omega
theorem idx_all (s : ByteArray) : decide (0 ≤ idxFunc (fun r => !signC (r : Int)) true s) = !s.data.toList.all signB := by
  have h := idx_bad s s.size 0 (by omega)
  cases ha : s.data.toList.all signB with
  | true =>
    simp only [Bool.not_true, decide_eq_false_iff_not]
    intro h'
    obtain ⟨i, _, b, h1, h2⟩ := h.1 h'
    have := List.all_eq_true.1 ha b (List.mem_of_getElem? h1)
    rw [this] at h2; cases h2
  | false =>
    simp only [Bool.not_false, decide_eq_true_eq]
    refine h.2 ?_
    obtain ⟨b, h1, h2⟩ := List.all_eq_false.1 ha
    obtain ⟨i, h3⟩ := List.getElem?_of_mem h1
    exact ⟨i, Nat.zero_le _, b, h3, by simpa using h2⟩
theorem f178_calls (g : Nat) (eg : ∀ args w, (callFunc g args).run Tryz.prog w = .ok (.enter g args) w) (p : Nat → Bool) (s : ByteArray) (w : World) (ht : Tabs Tryz.prog w fun _ => none) (hp : ∀ (W : World) (x : Nat), (Tabs Tryz.prog W fun _ => none) → x ≤ 1114111 → Calls Tryz.prog g #[.int .i32 (x : Int)] W fun e w' => e = .returned (.bool (p x)) ∧ Below W.heap.size W w') :
    Calls Tryz.prog 178 #[.string s, .func (.func g) #[] #[]] w fun e w' => e = .returned (.int .i64 (Lib.idxFunc p true s)) ∧ Below w.heap.size w w' := by
  have h44 := f197_calls g eg p s w ht hp
  clear hp
  go_enter Tryz.func178, Tryz.ntmps178
  go_wp2_with (go_at_call 197; refine h44.mono ?_; rintro e w1 ⟨rfl, hb⟩)
  go_ret
  exact ⟨rfl, hb⟩
theorem f141_calls (g : Nat) (eg : ∀ args w, (callFunc g args).run Tryz.prog w = .ok (.enter g args) w) (p : Nat → Bool) (s : ByteArray) (w : World) (ht : Tabs Tryz.prog w fun _ => none) (hp : ∀ (W : World) (x : Nat), (Tabs Tryz.prog W fun _ => none) → x ≤ 1114111 → Calls Tryz.prog g #[.int .i32 (x : Int)] W fun e w' => e = .returned (.bool (p x)) ∧ Below W.heap.size W w') :
    Calls Tryz.prog 141 #[.string s, .func (.func g) #[] #[]] w fun e w' => e = .returned (.bool (decide (0 ≤ Lib.idxFunc p true s))) ∧ Below w.heap.size w w' := by
  have h43 := f178_calls g eg p s w ht hp
  clear hp
  go_enter Tryz.func141, Tryz.ntmps141
  go_wp2_with (go_at_call 178; refine h43.mono ?_; rintro e w1 ⟨rfl, hb⟩)
  go_ret
  exact ⟨rfl, hb⟩
theorem f141_ok (s : ByteArray) : FnOK Tryz.prog 141 [] [eStr s, .lit (.func (.func 176) #[] #[])] [] (eBool (!s.data.toList.all signB)) := by
  rw [← idx_all]
  exact FnOK.of_calls (vs := [.string s, .func (.func 176) #[] #[]]) fun w ht => f141_calls 176 c176 (fun r => !signC (r : Int)) s w ht fun W x ht _ => (f176_ok (x : Int)).below (vs := [.int .i32 (x : Int)]) W ht
theorem size_len (s : ByteArray) : s.size = s.data.toList.length := (Array.length_toList (xs := s.data)).symm
theorem first_get {l : List UInt8} (h : 1 ≤ l.length) : ∃ b r, l = b :: r ∧ l[0]? = some b := by
  cases l with
  | nil => simp at h
  | cons b r => exact ⟨b, r, rfl, rfl⟩
theorem u8_i32 (b : UInt8) : IntKind.i32.wrap (b.toNat : Int) = (b.toNat : Int) := by
  have h : b.toNat < 256 := UInt8.toNat_lt b
  rw [IntKind.wrap_i32]; omega
theorem f139_ok (s : ByteArray) : FnOK Tryz.prog 139 [] [eStr s] [] (eBool (rightS s)) := by
  have hsz : s.size = s.data.toList.length := size_len s
  have hb0 : 1 ≤ s.data.toList.length → ∃ b r, s.data.toList = b :: r ∧ s.data.toList[0]? = some b := first_get
  refine FnOK.startC (rvs := [.tmp 2]) G G_good Tryz.func139 rfl Tryz.ntmps139 rfl rfl ?_; with_reducible refine wD ?_
  repeat' (first
    | ((with_reducible show IfK _ _ _ _); first | refine iK ?_ | (refine IfK.mk (fun _ => ?_) (fun _ => ?_) <;> with_reducible refine wK ?_))
    | ((with_reducible show CallK _ _ 141 _ _ _ _); refine CallK.lit [] (f141_ok _) c141 ⟨rfl, MF_refl 12 _ rfl, trivial⟩ rfl rfl ?_; with_reducible refine wK ?_)
    | ((with_reducible show CallK _ _ 142 _ _ _ _); refine CallK.lit [] (f142_ok _) c142 ⟨rfl, trivial⟩ rfl rfl ?_; with_reducible refine wK ?_)
    | ((with_reducible show CallK _ _ 140 _ _ _ _); refine CallK.lit [] (f140_ok _) c140 ⟨rfl, trivial⟩ rfl rfl ?_; with_reducible refine wK ?_)
    | ((with_reducible show IdxSK _ _ _ _ _); obtain ⟨b, r, hl, hb⟩ := hb0 (by simp only [decide_eq_false_iff_not] at *; omega); refine IdxSK.mk 0 b rfl hb ?_; with_reducible refine wK ?_)
    | ((with_reducible show ConvK _ _ _ _ _ _ _); refine ConvK.int (by kernel_rfl) (by kernel_rfl) (u8_i32 _) ?_; with_reducible refine wK ?_)
    | ((with_reducible show (_ ∧ _) ∧ _ ∧ _); (refine eK ?_ ?_ <;> with_reducible repeat' (first | exact trivial | (show _ ∧ _; refine aK ?_ ?_)))))
  all_goals (simp only [decide_eq_true_eq, decide_eq_false_iff_not, hsz] at *; unfold rightS rightL)
  · rw [show decide (1 ≤ s.data.toList.length) = false from decide_eq_false (by omega)]; rfl
  · rw [show decide (s.data.toList.length ≤ 40) = false from decide_eq_false (by omega)]; simp
  · rw [show s.data.toList.all signB = false from by simp_all]; simp
  all_goals rw [show decide (1 ≤ s.data.toList.length) = true from decide_eq_true (by omega), show decide (s.data.toList.length ≤ 40) = true from decide_eq_true (by omega), show s.data.toList.all signB = true from by simp_all, hl]; simp_all [firstB]
theorem right_size {s : ByteArray} (h : rightS s = true) : s.size ≤ 40 := by
  unfold rightS rightL at h
  simp only [Bool.and_eq_true, decide_eq_true_eq] at h
  rw [size_len]; exact h.1.1.2
theorem right_small {s : ByteArray} (h : (!rightS s) = false) : s.size ≤ 100000 := by
  have := right_size (s := s) (by simpa using h)
  omega
theorem f134_ok (s : ByteArray) : FnOK Tryz.prog 134 [] [eStr s] [] (.tup [eStr (if rightS s then lowS s else ⟨#[]⟩), eInt (if rightS s then 0 else 4)]) := by
  refine FnOK.startC (rvs := [.tmp 2, .tmp 3]) G G_good Tryz.func134 rfl Tryz.ntmps134 rfl rfl ?_; with_reducible refine wD ?_
  repeat' (first
    | ((with_reducible show IfK _ _ _ _); first | refine iK ?_ | (refine IfK.mk (fun _ => ?_) (fun _ => ?_) <;> with_reducible refine wK ?_))
    | ((with_reducible show CallK _ _ 139 _ _ _ _); refine CallK.lit [] (f139_ok _) c139 ⟨rfl, trivial⟩ rfl rfl ?_; with_reducible refine wK ?_)
    | ((with_reducible show CallK _ _ 168 _ _ _ _); refine CallK.lit [] (f168_ok _ (right_small (by assumption))) c168 ⟨rfl, trivial⟩ rfl rfl ?_; with_reducible refine wK ?_)
    | ((with_reducible show (_ ∧ _) ∧ _ ∧ _); (refine eK ?_ ?_ <;> with_reducible repeat' (first | exact trivial | (show _ ∧ _; refine aK ?_ ?_)))))
  all_goals simp_all
def okAt (i : Nat) (b : UInt8) : Bool := (smallC (b.toNat : Int) || capC (b.toNat : Int)) || decide ((b.toNat : Int) = 95) || (decide (0 < i) && signB b)
theorem rightL_at {l : List UInt8} (h1 : 1 ≤ l.length) (h2 : l.length ≤ 40) : rightL l = true ↔ ∀ i b, l[i]? = some b → okAt i b = true := by
  unfold rightL
  rw [decide_eq_true h1, decide_eq_true h2]
  simp only [Bool.true_and, Bool.and_eq_true, List.all_eq_true]
  constructor
  · rintro ⟨ha, hf⟩ i b hb
    cases l with
    | nil => simp at h1
    | cons c r =>
      cases i with
      | zero =>
        simp at hb; subst hb
        simp only [firstB] at hf
        simp [okAt, hf]
      | succ i =>
        have := ha b (List.mem_of_getElem? hb)
        simp [okAt, this]
  · intro h
    refine ⟨fun b hb => ?_, ?_⟩
    · obtain ⟨i, hi⟩ := List.getElem?_of_mem hb
      have := h i b hi
      simp only [okAt, signB, signC, smallC, capC, Bool.or_eq_true, Bool.and_eq_true, decide_eq_true_eq] at this ⊢
      omega
    · cases l with
      | nil => simp at h1
      | cons c r =>
        have := h 0 c rfl
        simpa [okAt, firstB] using this
end Go.Proofs.Heir
end
section
set_option linter.unusedSimpArgs false
set_option linter.unusedVariables false
namespace Go.Proofs.Heir
open Go.Am Go.RowKit Go.Lib
set_option maxRecDepth 100000
set_option maxHeartbeats 8000000
def strOf (l : List UInt8) : ByteArray := ⟨l.toArray⟩
theorem strOf_size (l : List UInt8) : (strOf l).size = l.length := by simp [strOf, ByteArray.size]
theorem strOf_app (a b : List UInt8) : strOf a ++ strOf b = strOf (a ++ b) := by
  apply ByteArray.ext
  simp [strOf]
theorem lowS_strOf (s : ByteArray) : lowS s = strOf (lowL s.data.toList) := rfl
theorem lowL_len (l : List UInt8) : (lowL l).length = l.length := by simp [lowL]
theorem cut_one {s : ByteArray} {k : Nat} {b : UInt8} (h : s.data.toList[k]? = some b) : s.extract k (k + 1) = strOf [b] := by
  obtain ⟨l, rfl⟩ : ∃ l : List UInt8, s = ⟨l.toArray⟩ := ⟨s.data.toList, by obtain ⟨⟨l⟩⟩ := s; rfl⟩
  rw [ByteArray.extract_mk]
  simp only at h
  have hk := (List.getElem?_eq_some_iff.1 h).1
  have : (l.drop k).take (k + 1 - k) = [b] := by
    rw [List.drop_eq_getElem_cons hk, show k + 1 - k = 1 from by omega]
    simp [(List.getElem?_eq_some_iff.1 h).2]
  rw [this]; rfl
theorem low_take {l : List UInt8} {k : Nat} {b : UInt8} (h : l[k]? = some b) : lowL (l.take (k + 1)) = lowL (l.take k) ++ [lowB b] := by
  have hk := (List.getElem?_eq_some_iff.1 h).1
  rw [List.take_succ_eq_append_getElem hk, lowL, List.map_append, (List.getElem?_eq_some_iff.1 h).2]; rfl
theorem cap_add {b : UInt8} (h : capC (b.toNat : Int) = true) : IntKind.u8.wrap ((b.toNat : Int) + 32) = ((b + 32 : UInt8).toNat : Int) := by
  rw [← cap_step b h]
  simp only [capC, Bool.and_eq_true, decide_eq_true_eq] at h
  rw [IntKind.wrap_u8, IntKind.wrap_u8, IntKind.wrap_u8]
  omega
theorem cap_of {c : Int} (h1 : decide (65 ≤ c) = true) (h2 : decide (c ≤ 90) = true) : capC c = true := by unfold capC; rw [h1, h2]; rfl
theorem bytes_cap {b : UInt8} (h1 : decide (65 ≤ (b.toNat : Int)) = true) (h2 : decide ((b.toNat : Int) ≤ 90) = true) : ∀ (i : Nat) (c : UInt8), [b + 32][i]? = some c → (flat [AV.lit (Value.int IntKind.u8 (IntKind.u8.wrap ((b.toNat : Int) + 32)))])[0 + i]? = some (.lit (.int .u8 c.toNat)) := by
  intro i c hc
  rw [cap_add (cap_of h1 h2)]
  cases i with
  | zero => cases hc; rfl
  | succ i => simp at hc
theorem f101_ok (s : ByteArray) (hs : s.size ≤ 100000) : FnOK Tryz.prog 101 [] [eStr s] [] (eStr (lowS s)) := by
  have hsz : s.size = s.data.toList.length := size_len s
  rw [lowS_strOf]
  obtain ⟨l, hl⟩ : ∃ l, s.data.toList = l := ⟨_, rfl⟩
  rw [hl] at hsz ⊢
  refine FnOK.startC (rvs := [.tmp 2]) G G_good Tryz.func101 rfl Tryz.ntmps101 rfl rfl ?_; with_reducible refine wD ?_
  refine LoopK.use G G_good (fun (k : Nat) => [(0, eStr s), (3, eStr (strOf (lowL (l.take k)))), (4, eInt k)]) (fun _ => []) (fun k => k ≤ l.length) (fun k => l.length - k) 0 (Nat.zero_le _) ⟨⟨rfl, rfl⟩, ⟨rfl, rfl, rfl, trivial⟩, trivial⟩ ?_
  intro k hk
  with_reducible refine wK ?_
  refine IfK.mk (fun h1 => ?_) (fun h1 => ?_) <;> (try simp only [castN] at h1) <;> with_reducible refine wK ?_
  · simp only [decide_eq_true_eq] at h1
    have hk' : k < l.length := by omega
    obtain ⟨b, hb0⟩ : ∃ b, l[k]? = some b := ⟨_, List.getElem?_eq_getElem hk'⟩
    have hb : s.data.toList[k]? = some b := by rw [hl]; exact hb0
    refine IdxSK.mk k b rfl hb ?_; with_reducible refine wK ?_
    have hln : (strOf (lowL (l.take k))).size ≤ 100000 := by rw [strOf_size, lowL_len]; simp; omega
    have hc1 : (s.extract k (k + 1)).size = 1 := by rw [cut_one hb, strOf_size]; rfl
    have n1 : (strOf (lowL (l.take k))).size + (s.extract k (k + 1)).size ≤ 9223372036854775807 := by omega
    have n2 : (strOf (lowL (l.take k))).size + (ByteArray.mk [b + 32].toArray).size ≤ 9223372036854775807 := by rw [show (ByteArray.mk [b + 32].toArray).size = 1 from rfl]; omega
    have no : capC (b.toNat : Int) = false → strOf (lowL (l.take (k + 1))) = strOf (lowL (l.take k)) ++ s.extract k (k + 1) := by
      intro hc
      rw [cut_one hb, strOf_app, low_take hb0, show lowB b = b from by simp [lowB, hc]]
    have yes : capC (b.toNat : Int) = true → strOf (lowL (l.take (k + 1))) = strOf (lowL (l.take k)) ++ ByteArray.mk [b + 32].toArray := by
      intro hc
      rw [show ByteArray.mk [b + 32].toArray = strOf [b + 32] from rfl, strOf_app, low_take hb0, show lowB b = b + 32 from by simp [lowB, hc]]
    have no1 : decide (65 ≤ (b.toNat : Int)) = false → capC (b.toNat : Int) = false := by intro h; unfold capC; rw [h]; rfl
    have no2 : decide ((b.toNat : Int) ≤ 90) = false → capC (b.toNat : Int) = false := by intro h; unfold capC; rw [h]; simp
    repeat' (first
    | ((with_reducible show IfK _ _ _ _); first | refine iK ?_ | (refine IfK.mk (fun _ => ?_) (fun _ => ?_) <;> with_reducible refine wK ?_))
    | ((with_reducible show IdxSK _ _ _ _ _); refine IdxSK.mk k b rfl hb ?_; with_reducible refine wK ?_)
    | ((with_reducible show BytesK _ _ _ _ _ _ _ _ _); refine BytesK.mk (e := 5) [b + 32] (by kernel_rfl) (by kernel_rfl) (by kernel_rfl) rfl (by simp) (bytes_cap (by assumption) (by assumption)) ?_; with_reducible refine wK ?_)
    | ((with_reducible show CutSK _ _ _ _ _ _); refine CutSK.mk k (k + 1) rfl (by simp only [castN]; omega) (by omega) (by omega) ?_; with_reducible refine wK ?_)
    | ((with_reducible show NeedK _ _ _ _); refine NeedK.mk n1 ?_; with_reducible refine wK ?_)
    | ((with_reducible show NeedK _ _ _ _); refine NeedK.mk n2 ?_; with_reducible refine wK ?_)
    | ((with_reducible show NeedK _ _ _ _); refine nK ?_; with_reducible refine wK ?_)
    | ((with_reducible show NextK _ _); refine NextK.mk (k + 1) (by omega) (by omega) ⟨⟨rfl, rfl⟩, ⟨rfl, ?_, by show ((k + 1 : Nat) : Int) = (k : Int) + 1; omega, trivial⟩, trivial⟩)
    | ((with_reducible show (_ ∧ _) ∧ _ ∧ _); (refine eK ?_ ?_ <;> with_reducible repeat' (first | exact trivial | (show _ ∧ _; refine aK ?_ ?_)))))
    · exact yes (cap_of (by assumption) (by assumption))
    · exact no (no2 (by assumption))
    · exact no (no1 (by assumption))
  · (refine eK ?_ ?_ <;> with_reducible repeat' (first | exact trivial | (show _ ∧ _; refine aK ?_ ?_)))
    have : k = l.length := by simp only [decide_eq_false_iff_not] at h1; omega
    rw [this, List.take_length]
end Go.Proofs.Heir
end
section
set_option linter.unusedSimpArgs false
set_option linter.unusedVariables false
namespace Go.Proofs.Heir
open Go.Am Go.RowKit Go.Lib
set_option maxRecDepth 100000
set_option maxHeartbeats 8000000
structure AttrM where
  name : ByteArray
  value : ByteArray
  deriving DecidableEq
@[reducible] def eAttr (a : AttrM) : AV := .agg [eStr a.name, eStr a.value]
def oAttr (a : AttrM) : AV := eAttr a
@[reducible] def eAttrs (l : List AttrM) : AV := .sl 2 (l.map oAttr)
theorem MFL_refl {tab : List (Nat × Nat)} {fz : Nat → Bool} {m : ML} {n : Nat} : ∀ {cs : List AV}, noRefL cs = true → MFL (MF tab fz m n) cs cs
  | [], _ => trivial
  | c :: cs, h => by
    simp only [noRefL, Bool.and_eq_true] at h
    exact ⟨MF_refl n c h.1, MFL_refl h.2⟩
def badA (a : AttrM) : Bool := !(rightS a.name && decide (lowS a.name = a.name) && decide (a.value.size ≤ 200))
theorem f165_ok (a : AttrM) : FnOK Tryz.prog 165 [] [eAttr a] [] (eBool (badA a)) := by
  obtain ⟨n, v⟩ := a
  refine FnOK.startC (rvs := [.tmp 2]) G G_good Tryz.func165 rfl Tryz.ntmps165 rfl rfl ?_; with_reducible refine wD ?_
  refine CallK.lit [] (f134_ok _) c134 ⟨rfl, trivial⟩ rfl rfl ?_; with_reducible refine wK ?_
  repeat' (first
    | ((with_reducible show IfK _ _ _ _); first | refine iK ?_ | (refine IfK.mk (fun _ => ?_) (fun _ => ?_) <;> with_reducible refine wK ?_))
    | ((with_reducible show (_ ∧ _) ∧ _ ∧ _); (refine eK ?_ ?_ <;> with_reducible repeat' (first | exact trivial | (show _ ∧ _; refine aK ?_ ?_)))))
  all_goals (unfold badA; cases hr : rightS n <;> simp_all)
  by_cases h2 : v.size ≤ 200
  · rw [decide_eq_true h2, decide_eq_false (by (try simp only [castN]); omega)]; rfl
  · rw [decide_eq_false h2, decide_eq_true (by (try simp only [castN]); omega)]; rfl
def idxI {α : Type} (p : α → Bool) (l : List α) : Int := match l.findIdx? p with | some i => (i : Int) | none => -1
theorem idxI_hit {α : Type} {p : α → Bool} {l : List α} {k : Nat} {a : α} (h : l[k]? = some a) (hp : p a = true) (hno : ∀ (j : Nat) (x : α), j < k → l[j]? = some x → p x = false) : idxI p l = k := by
  have : l.findIdx? p = some k := by
    rw [List.findIdx?_eq_some_iff_getElem]
    obtain ⟨hk, hx⟩ := List.getElem?_eq_some_iff.1 h
    exact ⟨hk, by rw [hx]; exact hp, fun j hj => by simpa using hno j _ hj (List.getElem?_eq_getElem (by omega))⟩
  rw [idxI, this]
theorem idxI_none {α : Type} {p : α → Bool} {l : List α} (hno : ∀ (j : Nat) (x : α), l[j]? = some x → p x = false) : idxI p l = -1 := by
  have : l.findIdx? p = none := by
    rw [List.findIdx?_eq_none_iff]
    intro x hx
    obtain ⟨j, hj⟩ := List.getElem?_of_mem hx
    exact hno j x hj
  rw [idxI, this]
theorem attr_get {l : List AttrM} {k : Nat} {a : AttrM} (h : l[k]? = some a) : (l.map oAttr)[k]? = some (eAttr a) := by rw [List.getElem?_map, h]; rfl
theorem f169_ok (g : Nat) (cg : Callable Tryz.prog g) (caps : List AV) (hcaps : noRefL caps = true) (p : AttrM → Bool) (l : List AttrM) (hl : l.length ≤ 100000) (hf : ∀ a, a ∈ l → FnOK Tryz.prog g [] (eAttr a :: caps) [] (eBool (p a))) :
    FnOK Tryz.prog 169 [] [eAttrs l, .clo (.func g) [] caps] [] (eInt (idxI p l)) := by
  have hlm : (l.map oAttr).length = l.length := List.length_map ..
  refine FnOK.startC (rvs := [.tmp 4]) G G_good Tryz.func169 rfl Tryz.ntmps169 rfl rfl ?_; with_reducible refine wD ?_
  refine LoopK.use G G_good (fun (k : Nat) => [(0, eAttrs l), (1, .clo (.func g) [] caps), (7, eInt l.length), (8, eInt k)]) (fun _ => []) (fun k => k ≤ l.length ∧ ∀ j x, j < k → l[j]? = some x → p x = false) (fun k => l.length - k) 0 ⟨Nat.zero_le _, fun j x h => by omega⟩
    ⟨⟨rfl, rfl⟩, ⟨rfl, ⟨rfl, trivial, MFL_refl hcaps⟩, by show (l.length : Int) = ((l.map oAttr).length : Int); rw [hlm], rfl, trivial⟩, trivial⟩ ?_
  rintro k ⟨hk, hno⟩
  with_reducible refine wK ?_
  refine IfK.mk (fun h1 => ?_) (fun h1 => ?_) <;> (try simp only [castN] at h1) <;> with_reducible refine wK ?_
  · simp only [decide_eq_true_eq] at h1
    have hk' : k < l.length := by omega
    obtain ⟨a, ha⟩ : ∃ a, l[k]? = some a := ⟨_, List.getElem?_eq_getElem hk'⟩
    refine IdxK.mk k (eAttr a) rfl (attr_get ha) ?_; with_reducible refine wK ?_
    refine CallK.lit [] (hf a (List.mem_of_getElem? ha)) cg ⟨⟨rfl, rfl, trivial⟩, MFL_refl hcaps⟩ rfl rfl ?_; with_reducible refine wK ?_
    refine IfK.mk (fun h2 => ?_) (fun h2 => ?_) <;> (try simp only [castN] at h2) <;> with_reducible refine wK ?_
    · (refine eK ?_ ?_ <;> with_reducible repeat' (first | exact trivial | (show _ ∧ _; refine aK ?_ ?_)))
      exact idxI_hit ha h2 hno
    · refine nK ?_; with_reducible refine wK ?_
      refine NextK.mk (k + 1) ⟨by omega, fun j x hj hx => ?_⟩ (by omega) ⟨⟨rfl, rfl⟩, ⟨rfl, ⟨rfl, trivial, MFL_refl hcaps⟩, rfl, by show ((k + 1 : Nat) : Int) = (k : Int) + 1; omega, trivial⟩, trivial⟩
      rcases Nat.lt_or_ge j k with h6 | h6
      · exact hno j x h6 hx
      · have : j = k := by omega
        subst this
        rw [ha] at hx; cases hx; exact h2
  · (refine eK ?_ ?_ <;> with_reducible repeat' (first | exact trivial | (show _ ∧ _; refine aK ?_ ?_)))
    have : k = l.length := by simp only [decide_eq_false_iff_not] at h1; omega
    exact idxI_none fun j x hx => hno j x (by have := (List.getElem?_eq_some_iff.1 hx).1; omega) hx
theorem f166_ok (g : Nat) (cg : Callable Tryz.prog g) (caps : List AV) (hcaps : noRefL caps = true) (p : AttrM → Bool) (l : List AttrM) (hl : l.length ≤ 100000) (hf : ∀ a, a ∈ l → FnOK Tryz.prog g [] (eAttr a :: caps) [] (eBool (p a))) :
    FnOK Tryz.prog 166 [] [eAttrs l, .clo (.func g) [] caps] [] (eBool (l.any p)) := by
  refine FnOK.startC (rvs := [.tmp 4]) G G_good Tryz.func166 rfl Tryz.ntmps166 rfl rfl ?_; with_reducible refine wD ?_
  refine CallK.lit [] (f169_ok g cg caps hcaps p l hl hf) c169 ⟨rfl, ⟨rfl, trivial, MFL_refl hcaps⟩, trivial⟩ rfl rfl ?_; with_reducible refine wK ?_
  (refine eK ?_ ?_ <;> with_reducible repeat' (first | exact trivial | (show _ ∧ _; refine aK ?_ ?_)))
  unfold idxI
  cases h : l.findIdx? p with
  | none =>
    rw [List.findIdx?_eq_none_iff] at h
    have : l.any p = false := by rw [List.any_eq_false]; intro x hx; rw [h x hx]; simp
    rw [this]; rfl
  | some i =>
    rw [List.findIdx?_eq_some_iff_getElem] at h
    obtain ⟨hi, h1, _⟩ := h
    have : l.any p = true := List.any_eq_true.2 ⟨_, List.getElem_mem hi, h1⟩
    rw [this]; exact (decide_eq_true (Int.natCast_nonneg i)).symm
end Go.Proofs.Heir
end
section
set_option linter.unusedSimpArgs false
set_option linter.unusedVariables false
namespace Go.Proofs.Heir
open Go.Am Go.RowKit Go.Lib
set_option maxRecDepth 100000
set_option maxHeartbeats 8000000
def okA (a : AttrM) : Bool := rightS a.name && decide (lowS a.name = a.name) && decide (a.value.size ≤ 200)
theorem badA_eq (a : AttrM) : badA a = !okA a := rfl
def rightA (l : List AttrM) : Bool := decide (l.length ≤ 40) && l.all okA && decide ((l.map AttrM.name).Nodup)
def tabFrom (t : List (ByteArray × AttrM)) (l : List AttrM) : List (ByteArray × AttrM) := l.foldl (fun t a => tput a.name a t) t
def tabL (l : List AttrM) : List (ByteArray × AttrM) := tabFrom [] l
theorem tput_len {K α : Type} [DecidableEq K] (k : K) (x : α) : ∀ t : List (K × α), (tput k x t).length = if (tget k t).isSome then t.length else t.length + 1
  | [] => rfl
  | p :: r => by
    simp only [tput, tget]
    split
    · simp
    · rw [List.length_cons, tput_len k x r]; split <;> simp
theorem tabFrom_len : ∀ (l : List AttrM) (t : List (ByteArray × AttrM)), (tabFrom t l).length ≤ t.length + l.length ∧ ((tabFrom t l).length = t.length + l.length ↔ (l.map AttrM.name).Nodup ∧ ∀ a ∈ l, (tget a.name t).isSome = false)
  | [], t => by simp [tabFrom]
  | a :: r, t => by
    obtain ⟨h1, h2⟩ := tabFrom_len r (tput a.name a t)
    have hl := tput_len a.name a t
    show (tabFrom (tput a.name a t) r).length ≤ _ ∧ ((tabFrom (tput a.name a t) r).length = _ ↔ _)
    cases hg : (tget a.name t).isSome with
    | true =>
      rw [hg, if_pos rfl] at hl
      refine ⟨by simp only [List.length_cons]; omega, ⟨fun h => ?_, fun h => ?_⟩⟩
      · simp only [List.length_cons] at h; omega
      · have := h.2 a (by simp); rw [hg] at this; cases this
    | false =>
      rw [hg, if_neg (by simp)] at hl
      refine ⟨by simp only [List.length_cons]; omega, ?_⟩
      rw [show (tabFrom (tput a.name a t) r).length = t.length + (a :: r).length ↔ (tabFrom (tput a.name a t) r).length = (tput a.name a t).length + r.length from by rw [hl, List.length_cons]; omega, h2]
      simp only [List.map_cons, List.nodup_cons, List.mem_cons, forall_eq_or_imp]
      constructor
      · rintro ⟨k1, k2⟩
        refine ⟨⟨fun hm => ?_, k1⟩, hg, fun b hb => ?_⟩
        · obtain ⟨b, hb, he⟩ := List.mem_map.1 hm
          have := k2 b hb
          rw [tget_put, he, if_pos rfl] at this; cases this
        · have := k2 b hb
          rw [tget_put] at this
          split at this
          · cases this
          · exact this
      · rintro ⟨⟨k1, k2⟩, _, k3⟩
        refine ⟨k2, fun b hb => ?_⟩
        rw [tget_put, if_neg (fun e => k1 (List.mem_map.2 ⟨b, hb, e.symm⟩))]
        exact k3 b hb
theorem tabL_len (l : List AttrM) : (tabL l).length = l.length ↔ (l.map AttrM.name).Nodup := by
  have := (tabFrom_len l []).2
  simp only [List.length_nil, Nat.zero_add] at this
  exact this.trans ⟨fun h => h.1, fun h => ⟨h, fun _ _ => rfl⟩⟩
theorem tabL_le (l : List AttrM) : (tabL l).length ≤ l.length := by
  have := (tabFrom_len l []).1
  simp only [List.length_nil, Nat.zero_add] at this
  exact this
theorem tabL_snoc {l : List AttrM} {k : Nat} {a : AttrM} (h : l[k]? = some a) : tabL (l.take (k + 1)) = tput a.name a (tabL (l.take k)) := by
  have hk := (List.getElem?_eq_some_iff.1 h).1
  rw [List.take_succ_eq_append_getElem hk, (List.getElem?_eq_some_iff.1 h).2]
  simp [tabL, tabFrom, List.foldl_append]
@[reducible] def rTab (l : List AttrM) : MS := .live 2 (tRows Value.string oAttr (tabL l)) false
theorem noRef_tabA (t : List (ByteArray × AttrM)) : noRefL (tRows Value.string oAttr t) = true := by
  rw [noRefL_iff]; intro x hx
  obtain ⟨a, _, rfl⟩ := List.mem_map.1 hx
  rfl
theorem map64 : MapTy Tryz.prog 204 .string (.agg #[.string ByteArray.empty, .string ByteArray.empty]) := ⟨9, 130, by kernel_rfl, by kernel_rfl, fun w => Tryz.zeroValue130 w⟩
theorem f167_ok (l : List AttrM) (hl : l.length ≤ 100000) : FnOK Tryz.prog 167 [] [eAttrs l] [rTab l] (.mapr 0) := by
  have hlm : (l.map oAttr).length = l.length := List.length_map ..
  refine FnOK.startC (rvs := [.tmp 2]) G G_good Tryz.func167 rfl Tryz.ntmps167 rfl rfl ?_; with_reducible refine wD ?_
  refine LoopK.use G G_good (fun (k : Nat) => [(3, .mapr 61), (7, eAttrs l), (8, eInt l.length), (9, eInt k)]) (fun k => [(61, .live 2 (tRows Value.string oAttr (tabL (l.take k))) false)]) (fun k => k ≤ l.length) (fun k => l.length - k) 0 (Nat.zero_le _)
    ⟨⟨rfl, rfl⟩, ⟨trivial, rfl, by show (l.length : Int) = ((l.map oAttr).length : Int); rw [hlm], rfl, trivial⟩, ⟨.refl rfl, rfl⟩, trivial⟩ ?_
  intro k hk
  with_reducible refine wK ?_
  refine IfK.mk (fun h1 => ?_) (fun h1 => ?_) <;> (try simp only [castN] at h1) <;> with_reducible refine wK ?_
  · simp only [decide_eq_true_eq] at h1
    have hk' : k < l.length := by omega
    obtain ⟨a, ha⟩ : ∃ a, l[k]? = some a := ⟨_, List.getElem?_eq_getElem hk'⟩
    obtain ⟨n, v⟩ := a
    refine IdxK.mk k (eAttr ⟨n, v⟩) rfl (attr_get ha) ?_; with_reducible refine wK ?_
    have hle : (tabL (l.take k)).length ≤ k := Nat.le_trans (tabL_le _) (by simp; omega)
    refine PutK.tab Value.string oAttr (tabL (l.take k)) (k := n) ⟨n, v⟩ map64 rfl key_str inj_str (by unfold maxLen; omega) rfl ?_; with_reducible refine wK ?_
    refine nK ?_; with_reducible refine wK ?_
    refine NextK.mk (k + 1) (by omega) (by omega) ⟨⟨rfl, rfl⟩, ⟨trivial, rfl, rfl, by show ((k + 1 : Nat) : Int) = (k : Int) + 1; omega, trivial⟩, ⟨?_, ?_⟩, trivial⟩
    · rw [tabL_snoc ha]; exact .refl (noRef_tabA _)
    · exact noRef_tabA _
  · (refine eK ?_ ?_ <;> with_reducible repeat' (first | exact trivial | (show _ ∧ _; refine aK ?_ ?_)))
    have : k = l.length := by simp only [decide_eq_false_iff_not] at h1; omega
    rw [this, List.take_length]
    exact MFL_refl (noRef_tabA _)
theorem FnOK.fn1 {P : Program} {f g : FuncId} {a : AV} {outs : List MS} {res : AV} (h : FnOK P f [] [a, .clo (.func g) [] []] outs res) : FnOK P f [] [a, .lit (.func (.func g) #[] #[])] outs res := by
  intro w W0 L vs hL hs hr
  refine h w W0 L vs hL hs ⟨hr.1, fun j c v h1 h2 => ?_⟩
  match j with
  | 0 => exact hr.2 0 c v h1 h2
  | 1 =>
    have := hr.2 1 _ v rfl h2
    cases this
    simp at h1
    subst h1
    exact Rep.clo (va := []) (vb := []) rfl rfl (fun j c v h => by simp at h) (fun j c v h => by simp at h)
  | j + 2 => simp at h1
theorem right_bad (l : List AttrM) : l.any badA = !l.all okA := by
  induction l with
  | nil => rfl
  | cons a r ih => simp [List.any_cons, List.all_cons, ih, badA_eq]
theorem tab_outs (l : List AttrM) : okOuts [rTab l] := by
  refine ⟨Wide.of_mem fun r hr => ?_, noRef_tabA _, trivial⟩
  obtain ⟨p, _, rfl⟩ := List.mem_map.1 hr
  rfl
theorem f133_ok (l : List AttrM) (hl : l.length ≤ 100000) : FnOK Tryz.prog 133 [] [eAttrs l] [] (eBool (rightA l)) := by
  have hlm : (l.map oAttr).length = l.length := List.length_map ..
  refine FnOK.startC (rvs := [.tmp 2]) G G_good Tryz.func133 rfl Tryz.ntmps133 rfl rfl ?_; with_reducible refine wD ?_
  repeat' (first
    | ((with_reducible show IfK _ _ _ _); first | refine iK ?_ | (refine IfK.mk (fun _ => ?_) (fun _ => ?_) <;> with_reducible refine wK ?_))
    | ((with_reducible show CallK _ _ 166 _ _ _ _); refine CallK.lit [] (FnOK.fn1 (f166_ok 165 c165 [] rfl badA l hl fun a _ => f165_ok a)) c166 ⟨rfl, MF_refl 12 _ rfl, trivial⟩ rfl rfl ?_; with_reducible refine wK ?_)
    | ((with_reducible show CallK _ _ 167 _ _ _ _); refine CallK.new 151 [] (f167_ok l hl) c167 ⟨rfl, trivial⟩ rfl rfl rfl (tab_outs l) rfl ?_; with_reducible refine wK ?_)
    | ((with_reducible show CountK _ _ _ _ _ _ _); refine CountK.mk map64 ⟨_, _, rfl⟩ rfl ?_; with_reducible refine wK ?_)
    | ((with_reducible show (_ ∧ _) ∧ _ ∧ _); (refine eK ?_ ?_ <;> with_reducible repeat' (first | exact trivial | (show _ ∧ _; refine aK ?_ ?_)))))
  · have h2 : l.all okA = true := by have := right_bad l; simp_all
    have e : (tRows Value.string oAttr (tabL l)).length = (tabL l).length := List.length_map ..
    have h3 : l.length ≤ 40 := by simp only [hlm, decide_eq_true_eq] at *; omega
    have h4 := tabL_len l
    unfold rightA
    rw [h2, decide_eq_true h3, e, hlm]
    by_cases hn : (l.map AttrM.name).Nodup
    · rw [decide_eq_true hn, h4.2 hn]; simp
    · rw [decide_eq_false hn]
      have : ¬ (tabL l).length = l.length := fun h => hn (h4.1 h)
      rw [decide_eq_false (by (try simp only [castN]); omega)]; rfl
  · have h2 : l.all okA = false := by have := right_bad l; simp_all
    unfold rightA; rw [h2]; simp
  · have h2 : decide (l.length ≤ 40) = false := by simp only [hlm, decide_eq_false_iff_not] at *; omega
    unfold rightA; rw [h2]; simp
end Go.Proofs.Heir
end
section
set_option linter.unusedSimpArgs false
set_option linter.unusedVariables false
namespace Go.Proofs.Heir
open Go.Am Go.RowKit Go.Lib
set_option maxRecDepth 100000
set_option maxHeartbeats 8000000
def findE (l : List AttrM) (n : ByteArray) : Int := if rightA l then (if rightS n then 0 else 4) else 1
end Go.Proofs.Heir
end
section
set_option linter.unusedSimpArgs false
set_option linter.unusedVariables false
namespace Go.Proofs.Heir
open Go.Am Go.RowKit Go.Lib
set_option maxRecDepth 100000
set_option maxHeartbeats 8000000
theorem f100_ok (s : ByteArray) : FnOK Tryz.prog 100 [] [eStr s] [] (eBool (rightS s)) := by
  have hsz : s.size = s.data.toList.length := size_len s
  refine FnOK.startC (rvs := [.tmp 2]) G G_good Tryz.func100 rfl Tryz.ntmps100 rfl rfl ?_; with_reducible refine wD ?_
  repeat' (first
    | ((with_reducible show IfK _ _ _ _); first | refine iK ?_ | (refine IfK.mk (fun _ => ?_) (fun _ => ?_) <;> with_reducible refine wK ?_))
    | ((with_reducible show (_ ∧ _) ∧ _ ∧ _); (refine eK ?_ ?_ <;> with_reducible repeat' (first | exact trivial | (show _ ∧ _; refine aK ?_ ?_)))))
  all_goals (simp only [decide_eq_true_eq, decide_eq_false_iff_not, hsz] at *)
  · unfold rightS rightL
    rw [show decide (1 ≤ s.data.toList.length) = false from decide_eq_false (by omega)]; rfl
  · unfold rightS rightL
    rw [show decide (s.data.toList.length ≤ 40) = false from decide_eq_false (by omega)]; simp
  · have hr := rightL_at (l := s.data.toList) (by omega) (by omega)
    refine LoopK.use G G_good (fun (k : Nat) => [(0, eStr s), (3, eInt k)]) (fun _ => []) (fun k => k ≤ s.data.toList.length ∧ ∀ i b, i < k → s.data.toList[i]? = some b → okAt i b = true) (fun k => s.data.toList.length - k) 0 ⟨Nat.zero_le _, fun i _ h => by omega⟩ ⟨⟨rfl, rfl⟩, ⟨rfl, rfl, trivial⟩, trivial⟩ ?_
    rintro k ⟨hk, hok⟩
    with_reducible refine wK ?_
    refine IfK.mk (fun h1 => ?_) (fun h1 => ?_) <;> (try simp only [castN] at h1) <;> with_reducible refine wK ?_
    · simp only [decide_eq_true_eq] at h1
      have hk' : k < s.data.toList.length := by rw [← size_len s]; omega
      obtain ⟨b, hb⟩ : ∃ b, s.data.toList[k]? = some b := ⟨_, List.getElem?_eq_getElem hk'⟩
      refine IdxSK.mk k b rfl hb ?_; with_reducible refine wK ?_
      have next : okAt k b = true → ∀ i c, i < k + 1 → s.data.toList[i]? = some c → okAt i c = true := by
        intro h i c hi hc
        rcases Nat.lt_or_ge i k with h6 | h6
        · exact hok i c h6 hc
        · have : i = k := by omega
          subst this
          rw [hb] at hc; cases hc; exact h
      have no : okAt k b = false → rightS s = false := by
        intro h
        cases h' : rightS s with
        | false => rfl
        | true => rw [hr.1 h' k b hb] at h; cases h
      have hb256 : b.toNat < 256 := UInt8.toNat_lt b
      obtain ⟨c, hcb⟩ : ∃ c : Int, (b.toNat : Int) = c := ⟨_, rfl⟩
      have hc : (0 ≤ c ∧ c ≤ 44) ∨ (45 ≤ c ∧ c ≤ 45) ∨ (46 ≤ c ∧ c ≤ 46) ∨ (47 ≤ c ∧ c ≤ 47) ∨ (48 ≤ c ∧ c ≤ 57) ∨ (58 ≤ c ∧ c ≤ 64) ∨ (65 ≤ c ∧ c ≤ 90) ∨ (91 ≤ c ∧ c ≤ 94) ∨ (95 ≤ c ∧ c ≤ 95) ∨ (96 ≤ c ∧ c ≤ 96) ∨ (97 ≤ c ∧ c ≤ 122) ∨ (123 ≤ c ∧ c ≤ 255) := by omega
      have hok' : okAt k b = ((decide (97 ≤ c) && decide (c ≤ 122) || decide (65 ≤ c) && decide (c ≤ 90)) || decide (c = 95) || (decide (0 < k) && ((decide (97 ≤ c) && decide (c ≤ 122)) || (decide (65 ≤ c) && decide (c ≤ 90)) || (decide (48 ≤ c) && decide (c ≤ 57)) || decide (c = 45) || decide (c = 95) || decide (c = 46)))) := by
        simp only [okAt, signB, signC, smallC, capC, hcb]
      simp only [hcb]
      have n1 : (!false) = true := rfl
      have n2 : (!true) = false := rfl
      obtain ⟨K0, hK0⟩ : ∃ K0, decide ((k : Int) = 0) = K0 := ⟨_, rfl⟩
      have hk0 : decide (0 < k) = !K0 := by rw [← hK0]; rcases Nat.eq_zero_or_pos k with h | h
                                            · subst h; rfl
                                            · rw [decide_eq_true h, decide_eq_false (by omega)]; rfl
      rw [hk0] at hok'
      rcases hc with ⟨u1, u2⟩ | ⟨u1, u2⟩ | ⟨u1, u2⟩ | ⟨u1, u2⟩ | ⟨u1, u2⟩ | ⟨u1, u2⟩ | ⟨u1, u2⟩ | ⟨u1, u2⟩ | ⟨u1, u2⟩ | ⟨u1, u2⟩ | ⟨u1, u2⟩ | ⟨u1, u2⟩
      · have e0 : decide (97 ≤ c) = false := decide_eq_false (by omega)
        have e1 : decide (c ≤ 122) = true := decide_eq_true (by omega)
        have e2 : decide (65 ≤ c) = false := decide_eq_false (by omega)
        have e3 : decide (c ≤ 90) = true := decide_eq_true (by omega)
        have e4 : decide (48 ≤ c) = false := decide_eq_false (by omega)
        have e5 : decide (c ≤ 57) = true := decide_eq_true (by omega)
        have e6 : decide (c = 45) = false := decide_eq_false (by omega)
        have e7 : decide (c = 46) = false := decide_eq_false (by omega)
        have e8 : decide (c = 95) = false := decide_eq_false (by omega)
        have e9 : (!decide (c = 95)) = true := by rw [e8]; rfl
        have f5 : (!decide (c ≤ 57)) = !(decide (c ≤ 57)) := rfl
        rw [e5] at f5
        have f6 : (!decide (c = 45)) = !(decide (c = 45)) := rfl
        rw [e6] at f6
        have f7 : (!decide (c = 46)) = !(decide (c = 46)) := rfl
        rw [e7] at f7
        simp only [Bool.not_true, Bool.not_false] at f5
        simp only [Bool.not_true, Bool.not_false] at f6
        simp only [Bool.not_true, Bool.not_false] at f7
        simp only [e0, e1, e2, e3, e4, e5, e6, e7, e8, Bool.and_true, Bool.true_and, Bool.and_false, Bool.false_and, Bool.or_true, Bool.true_or, Bool.or_false, Bool.false_or] at hok'
        cases K0
        all_goals (try simp only [Bool.not_true, Bool.not_false] at hok')
        repeat' (first
    | ((with_reducible show IfK _ _ _ _); first | refine iK ?_ | (refine IfK.mk (fun _ => ?_) (fun _ => ?_) <;> with_reducible refine wK ?_))
    | ((with_reducible show NeedK _ _ _ _); refine nK ?_; with_reducible refine wK ?_)
    | ((with_reducible show NextK _ _); refine NextK.mk (k + 1) ⟨by omega, next ?_⟩ (by omega) ⟨⟨rfl, rfl⟩, ⟨rfl, by show ((k + 1 : Nat) : Int) = (k : Int) + 1; omega, trivial⟩, trivial⟩)
    | ((with_reducible show (_ ∧ _) ∧ _ ∧ _); (refine eK ?_ ?_ <;> with_reducible repeat' (first | exact trivial | (show _ ∧ _; refine aK ?_ ?_)))))
        all_goals first
          | exact no hok'
          | exact hok'
          | trace_state
      · have e0 : decide (97 ≤ c) = false := decide_eq_false (by omega)
        have e1 : decide (c ≤ 122) = true := decide_eq_true (by omega)
        have e2 : decide (65 ≤ c) = false := decide_eq_false (by omega)
        have e3 : decide (c ≤ 90) = true := decide_eq_true (by omega)
        have e4 : decide (48 ≤ c) = false := decide_eq_false (by omega)
        have e5 : decide (c ≤ 57) = true := decide_eq_true (by omega)
        have e6 : decide (c = 45) = true := decide_eq_true (by omega)
        have e7 : decide (c = 46) = false := decide_eq_false (by omega)
        have e8 : decide (c = 95) = false := decide_eq_false (by omega)
        have e9 : (!decide (c = 95)) = true := by rw [e8]; rfl
        have f5 : (!decide (c ≤ 57)) = !(decide (c ≤ 57)) := rfl
        rw [e5] at f5
        have f6 : (!decide (c = 45)) = !(decide (c = 45)) := rfl
        rw [e6] at f6
        have f7 : (!decide (c = 46)) = !(decide (c = 46)) := rfl
        rw [e7] at f7
        simp only [Bool.not_true, Bool.not_false] at f5
        simp only [Bool.not_true, Bool.not_false] at f6
        simp only [Bool.not_true, Bool.not_false] at f7
        simp only [e0, e1, e2, e3, e4, e5, e6, e7, e8, Bool.and_true, Bool.true_and, Bool.and_false, Bool.false_and, Bool.or_true, Bool.true_or, Bool.or_false, Bool.false_or] at hok'
        cases K0
        all_goals (try simp only [Bool.not_true, Bool.not_false] at hok')
        repeat' (first
    | ((with_reducible show IfK _ _ _ _); first | refine iK ?_ | (refine IfK.mk (fun _ => ?_) (fun _ => ?_) <;> with_reducible refine wK ?_))
    | ((with_reducible show NeedK _ _ _ _); refine nK ?_; with_reducible refine wK ?_)
    | ((with_reducible show NextK _ _); refine NextK.mk (k + 1) ⟨by omega, next ?_⟩ (by omega) ⟨⟨rfl, rfl⟩, ⟨rfl, by show ((k + 1 : Nat) : Int) = (k : Int) + 1; omega, trivial⟩, trivial⟩)
    | ((with_reducible show (_ ∧ _) ∧ _ ∧ _); (refine eK ?_ ?_ <;> with_reducible repeat' (first | exact trivial | (show _ ∧ _; refine aK ?_ ?_)))))
        all_goals first
          | exact no hok'
          | exact hok'
          | trace_state
      · have e0 : decide (97 ≤ c) = false := decide_eq_false (by omega)
        have e1 : decide (c ≤ 122) = true := decide_eq_true (by omega)
        have e2 : decide (65 ≤ c) = false := decide_eq_false (by omega)
        have e3 : decide (c ≤ 90) = true := decide_eq_true (by omega)
        have e4 : decide (48 ≤ c) = false := decide_eq_false (by omega)
        have e5 : decide (c ≤ 57) = true := decide_eq_true (by omega)
        have e6 : decide (c = 45) = false := decide_eq_false (by omega)
        have e7 : decide (c = 46) = true := decide_eq_true (by omega)
        have e8 : decide (c = 95) = false := decide_eq_false (by omega)
        have e9 : (!decide (c = 95)) = true := by rw [e8]; rfl
        have f5 : (!decide (c ≤ 57)) = !(decide (c ≤ 57)) := rfl
        rw [e5] at f5
        have f6 : (!decide (c = 45)) = !(decide (c = 45)) := rfl
        rw [e6] at f6
        have f7 : (!decide (c = 46)) = !(decide (c = 46)) := rfl
        rw [e7] at f7
        simp only [Bool.not_true, Bool.not_false] at f5
        simp only [Bool.not_true, Bool.not_false] at f6
        simp only [Bool.not_true, Bool.not_false] at f7
        simp only [e0, e1, e2, e3, e4, e5, e6, e7, e8, Bool.and_true, Bool.true_and, Bool.and_false, Bool.false_and, Bool.or_true, Bool.true_or, Bool.or_false, Bool.false_or] at hok'
        cases K0
        all_goals (try simp only [Bool.not_true, Bool.not_false] at hok')
        repeat' (first
    | ((with_reducible show IfK _ _ _ _); first | refine iK ?_ | (refine IfK.mk (fun _ => ?_) (fun _ => ?_) <;> with_reducible refine wK ?_))
    | ((with_reducible show NeedK _ _ _ _); refine nK ?_; with_reducible refine wK ?_)
    | ((with_reducible show NextK _ _); refine NextK.mk (k + 1) ⟨by omega, next ?_⟩ (by omega) ⟨⟨rfl, rfl⟩, ⟨rfl, by show ((k + 1 : Nat) : Int) = (k : Int) + 1; omega, trivial⟩, trivial⟩)
    | ((with_reducible show (_ ∧ _) ∧ _ ∧ _); (refine eK ?_ ?_ <;> with_reducible repeat' (first | exact trivial | (show _ ∧ _; refine aK ?_ ?_)))))
        all_goals first
          | exact no hok'
          | exact hok'
          | trace_state
      · have e0 : decide (97 ≤ c) = false := decide_eq_false (by omega)
        have e1 : decide (c ≤ 122) = true := decide_eq_true (by omega)
        have e2 : decide (65 ≤ c) = false := decide_eq_false (by omega)
        have e3 : decide (c ≤ 90) = true := decide_eq_true (by omega)
        have e4 : decide (48 ≤ c) = false := decide_eq_false (by omega)
        have e5 : decide (c ≤ 57) = true := decide_eq_true (by omega)
        have e6 : decide (c = 45) = false := decide_eq_false (by omega)
        have e7 : decide (c = 46) = false := decide_eq_false (by omega)
        have e8 : decide (c = 95) = false := decide_eq_false (by omega)
        have e9 : (!decide (c = 95)) = true := by rw [e8]; rfl
        have f5 : (!decide (c ≤ 57)) = !(decide (c ≤ 57)) := rfl
        rw [e5] at f5
        have f6 : (!decide (c = 45)) = !(decide (c = 45)) := rfl
        rw [e6] at f6
        have f7 : (!decide (c = 46)) = !(decide (c = 46)) := rfl
        rw [e7] at f7
        simp only [Bool.not_true, Bool.not_false] at f5
        simp only [Bool.not_true, Bool.not_false] at f6
        simp only [Bool.not_true, Bool.not_false] at f7
        simp only [e0, e1, e2, e3, e4, e5, e6, e7, e8, Bool.and_true, Bool.true_and, Bool.and_false, Bool.false_and, Bool.or_true, Bool.true_or, Bool.or_false, Bool.false_or] at hok'
        cases K0
        all_goals (try simp only [Bool.not_true, Bool.not_false] at hok')
        repeat' (first
    | ((with_reducible show IfK _ _ _ _); first | refine iK ?_ | (refine IfK.mk (fun _ => ?_) (fun _ => ?_) <;> with_reducible refine wK ?_))
    | ((with_reducible show NeedK _ _ _ _); refine nK ?_; with_reducible refine wK ?_)
    | ((with_reducible show NextK _ _); refine NextK.mk (k + 1) ⟨by omega, next ?_⟩ (by omega) ⟨⟨rfl, rfl⟩, ⟨rfl, by show ((k + 1 : Nat) : Int) = (k : Int) + 1; omega, trivial⟩, trivial⟩)
    | ((with_reducible show (_ ∧ _) ∧ _ ∧ _); (refine eK ?_ ?_ <;> with_reducible repeat' (first | exact trivial | (show _ ∧ _; refine aK ?_ ?_)))))
        all_goals first
          | exact no hok'
          | exact hok'
          | trace_state
      · have e0 : decide (97 ≤ c) = false := decide_eq_false (by omega)
        have e1 : decide (c ≤ 122) = true := decide_eq_true (by omega)
        have e2 : decide (65 ≤ c) = false := decide_eq_false (by omega)
        have e3 : decide (c ≤ 90) = true := decide_eq_true (by omega)
        have e4 : decide (48 ≤ c) = true := decide_eq_true (by omega)
        have e5 : decide (c ≤ 57) = true := decide_eq_true (by omega)
        have e6 : decide (c = 45) = false := decide_eq_false (by omega)
        have e7 : decide (c = 46) = false := decide_eq_false (by omega)
        have e8 : decide (c = 95) = false := decide_eq_false (by omega)
        have e9 : (!decide (c = 95)) = true := by rw [e8]; rfl
        have f5 : (!decide (c ≤ 57)) = !(decide (c ≤ 57)) := rfl
        rw [e5] at f5
        have f6 : (!decide (c = 45)) = !(decide (c = 45)) := rfl
        rw [e6] at f6
        have f7 : (!decide (c = 46)) = !(decide (c = 46)) := rfl
        rw [e7] at f7
        simp only [Bool.not_true, Bool.not_false] at f5
        simp only [Bool.not_true, Bool.not_false] at f6
        simp only [Bool.not_true, Bool.not_false] at f7
        simp only [e0, e1, e2, e3, e4, e5, e6, e7, e8, Bool.and_true, Bool.true_and, Bool.and_false, Bool.false_and, Bool.or_true, Bool.true_or, Bool.or_false, Bool.false_or] at hok'
        cases K0
        all_goals (try simp only [Bool.not_true, Bool.not_false] at hok')
        repeat' (first
    | ((with_reducible show IfK _ _ _ _); first | refine iK ?_ | (refine IfK.mk (fun _ => ?_) (fun _ => ?_) <;> with_reducible refine wK ?_))
    | ((with_reducible show NeedK _ _ _ _); refine nK ?_; with_reducible refine wK ?_)
    | ((with_reducible show NextK _ _); refine NextK.mk (k + 1) ⟨by omega, next ?_⟩ (by omega) ⟨⟨rfl, rfl⟩, ⟨rfl, by show ((k + 1 : Nat) : Int) = (k : Int) + 1; omega, trivial⟩, trivial⟩)
    | ((with_reducible show (_ ∧ _) ∧ _ ∧ _); (refine eK ?_ ?_ <;> with_reducible repeat' (first | exact trivial | (show _ ∧ _; refine aK ?_ ?_)))))
        all_goals first
          | exact no hok'
          | exact hok'
          | trace_state
      · have e0 : decide (97 ≤ c) = false := decide_eq_false (by omega)
        have e1 : decide (c ≤ 122) = true := decide_eq_true (by omega)
        have e2 : decide (65 ≤ c) = false := decide_eq_false (by omega)
        have e3 : decide (c ≤ 90) = true := decide_eq_true (by omega)
        have e4 : decide (48 ≤ c) = true := decide_eq_true (by omega)
        have e5 : decide (c ≤ 57) = false := decide_eq_false (by omega)
        have e6 : decide (c = 45) = false := decide_eq_false (by omega)
        have e7 : decide (c = 46) = false := decide_eq_false (by omega)
        have e8 : decide (c = 95) = false := decide_eq_false (by omega)
        have e9 : (!decide (c = 95)) = true := by rw [e8]; rfl
        have f5 : (!decide (c ≤ 57)) = !(decide (c ≤ 57)) := rfl
        rw [e5] at f5
        have f6 : (!decide (c = 45)) = !(decide (c = 45)) := rfl
        rw [e6] at f6
        have f7 : (!decide (c = 46)) = !(decide (c = 46)) := rfl
        rw [e7] at f7
        simp only [Bool.not_true, Bool.not_false] at f5
        simp only [Bool.not_true, Bool.not_false] at f6
        simp only [Bool.not_true, Bool.not_false] at f7
        simp only [e0, e1, e2, e3, e4, e5, e6, e7, e8, Bool.and_true, Bool.true_and, Bool.and_false, Bool.false_and, Bool.or_true, Bool.true_or, Bool.or_false, Bool.false_or] at hok'
        cases K0
        all_goals (try simp only [Bool.not_true, Bool.not_false] at hok')
        repeat' (first
    | ((with_reducible show IfK _ _ _ _); first | refine iK ?_ | (refine IfK.mk (fun _ => ?_) (fun _ => ?_) <;> with_reducible refine wK ?_))
    | ((with_reducible show NeedK _ _ _ _); refine nK ?_; with_reducible refine wK ?_)
    | ((with_reducible show NextK _ _); refine NextK.mk (k + 1) ⟨by omega, next ?_⟩ (by omega) ⟨⟨rfl, rfl⟩, ⟨rfl, by show ((k + 1 : Nat) : Int) = (k : Int) + 1; omega, trivial⟩, trivial⟩)
    | ((with_reducible show (_ ∧ _) ∧ _ ∧ _); (refine eK ?_ ?_ <;> with_reducible repeat' (first | exact trivial | (show _ ∧ _; refine aK ?_ ?_)))))
        all_goals first
          | exact no hok'
          | exact hok'
          | trace_state
      · have e0 : decide (97 ≤ c) = false := decide_eq_false (by omega)
        have e1 : decide (c ≤ 122) = true := decide_eq_true (by omega)
        have e2 : decide (65 ≤ c) = true := decide_eq_true (by omega)
        have e3 : decide (c ≤ 90) = true := decide_eq_true (by omega)
        have e4 : decide (48 ≤ c) = true := decide_eq_true (by omega)
        have e5 : decide (c ≤ 57) = false := decide_eq_false (by omega)
        have e6 : decide (c = 45) = false := decide_eq_false (by omega)
        have e7 : decide (c = 46) = false := decide_eq_false (by omega)
        have e8 : decide (c = 95) = false := decide_eq_false (by omega)
        have e9 : (!decide (c = 95)) = true := by rw [e8]; rfl
        have f5 : (!decide (c ≤ 57)) = !(decide (c ≤ 57)) := rfl
        rw [e5] at f5
        have f6 : (!decide (c = 45)) = !(decide (c = 45)) := rfl
        rw [e6] at f6
        have f7 : (!decide (c = 46)) = !(decide (c = 46)) := rfl
        rw [e7] at f7
        simp only [Bool.not_true, Bool.not_false] at f5
        simp only [Bool.not_true, Bool.not_false] at f6
        simp only [Bool.not_true, Bool.not_false] at f7
        simp only [e0, e1, e2, e3, e4, e5, e6, e7, e8, Bool.and_true, Bool.true_and, Bool.and_false, Bool.false_and, Bool.or_true, Bool.true_or, Bool.or_false, Bool.false_or] at hok'
        cases K0
        all_goals (try simp only [Bool.not_true, Bool.not_false] at hok')
        repeat' (first
    | ((with_reducible show IfK _ _ _ _); first | refine iK ?_ | (refine IfK.mk (fun _ => ?_) (fun _ => ?_) <;> with_reducible refine wK ?_))
    | ((with_reducible show NeedK _ _ _ _); refine nK ?_; with_reducible refine wK ?_)
    | ((with_reducible show NextK _ _); refine NextK.mk (k + 1) ⟨by omega, next ?_⟩ (by omega) ⟨⟨rfl, rfl⟩, ⟨rfl, by show ((k + 1 : Nat) : Int) = (k : Int) + 1; omega, trivial⟩, trivial⟩)
    | ((with_reducible show (_ ∧ _) ∧ _ ∧ _); (refine eK ?_ ?_ <;> with_reducible repeat' (first | exact trivial | (show _ ∧ _; refine aK ?_ ?_)))))
        all_goals first
          | exact no hok'
          | exact hok'
          | trace_state
      · have e0 : decide (97 ≤ c) = false := decide_eq_false (by omega)
        have e1 : decide (c ≤ 122) = true := decide_eq_true (by omega)
        have e2 : decide (65 ≤ c) = true := decide_eq_true (by omega)
        have e3 : decide (c ≤ 90) = false := decide_eq_false (by omega)
        have e4 : decide (48 ≤ c) = true := decide_eq_true (by omega)
        have e5 : decide (c ≤ 57) = false := decide_eq_false (by omega)
        have e6 : decide (c = 45) = false := decide_eq_false (by omega)
        have e7 : decide (c = 46) = false := decide_eq_false (by omega)
        have e8 : decide (c = 95) = false := decide_eq_false (by omega)
        have e9 : (!decide (c = 95)) = true := by rw [e8]; rfl
        have f5 : (!decide (c ≤ 57)) = !(decide (c ≤ 57)) := rfl
        rw [e5] at f5
        have f6 : (!decide (c = 45)) = !(decide (c = 45)) := rfl
        rw [e6] at f6
        have f7 : (!decide (c = 46)) = !(decide (c = 46)) := rfl
        rw [e7] at f7
        simp only [Bool.not_true, Bool.not_false] at f5
        simp only [Bool.not_true, Bool.not_false] at f6
        simp only [Bool.not_true, Bool.not_false] at f7
        simp only [e0, e1, e2, e3, e4, e5, e6, e7, e8, Bool.and_true, Bool.true_and, Bool.and_false, Bool.false_and, Bool.or_true, Bool.true_or, Bool.or_false, Bool.false_or] at hok'
        cases K0
        all_goals (try simp only [Bool.not_true, Bool.not_false] at hok')
        repeat' (first
    | ((with_reducible show IfK _ _ _ _); first | refine iK ?_ | (refine IfK.mk (fun _ => ?_) (fun _ => ?_) <;> with_reducible refine wK ?_))
    | ((with_reducible show NeedK _ _ _ _); refine nK ?_; with_reducible refine wK ?_)
    | ((with_reducible show NextK _ _); refine NextK.mk (k + 1) ⟨by omega, next ?_⟩ (by omega) ⟨⟨rfl, rfl⟩, ⟨rfl, by show ((k + 1 : Nat) : Int) = (k : Int) + 1; omega, trivial⟩, trivial⟩)
    | ((with_reducible show (_ ∧ _) ∧ _ ∧ _); (refine eK ?_ ?_ <;> with_reducible repeat' (first | exact trivial | (show _ ∧ _; refine aK ?_ ?_)))))
        all_goals first
          | exact no hok'
          | exact hok'
          | trace_state
      · have e0 : decide (97 ≤ c) = false := decide_eq_false (by omega)
        have e1 : decide (c ≤ 122) = true := decide_eq_true (by omega)
        have e2 : decide (65 ≤ c) = true := decide_eq_true (by omega)
        have e3 : decide (c ≤ 90) = false := decide_eq_false (by omega)
        have e4 : decide (48 ≤ c) = true := decide_eq_true (by omega)
        have e5 : decide (c ≤ 57) = false := decide_eq_false (by omega)
        have e6 : decide (c = 45) = false := decide_eq_false (by omega)
        have e7 : decide (c = 46) = false := decide_eq_false (by omega)
        have e8 : decide (c = 95) = true := decide_eq_true (by omega)
        have e9 : (!decide (c = 95)) = false := by rw [e8]; rfl
        have f5 : (!decide (c ≤ 57)) = !(decide (c ≤ 57)) := rfl
        rw [e5] at f5
        have f6 : (!decide (c = 45)) = !(decide (c = 45)) := rfl
        rw [e6] at f6
        have f7 : (!decide (c = 46)) = !(decide (c = 46)) := rfl
        rw [e7] at f7
        simp only [Bool.not_true, Bool.not_false] at f5
        simp only [Bool.not_true, Bool.not_false] at f6
        simp only [Bool.not_true, Bool.not_false] at f7
        simp only [e0, e1, e2, e3, e4, e5, e6, e7, e8, Bool.and_true, Bool.true_and, Bool.and_false, Bool.false_and, Bool.or_true, Bool.true_or, Bool.or_false, Bool.false_or] at hok'
        cases K0
        all_goals (try simp only [Bool.not_true, Bool.not_false] at hok')
        repeat' (first
    | ((with_reducible show IfK _ _ _ _); first | refine iK ?_ | (refine IfK.mk (fun _ => ?_) (fun _ => ?_) <;> with_reducible refine wK ?_))
    | ((with_reducible show NeedK _ _ _ _); refine nK ?_; with_reducible refine wK ?_)
    | ((with_reducible show NextK _ _); refine NextK.mk (k + 1) ⟨by omega, next ?_⟩ (by omega) ⟨⟨rfl, rfl⟩, ⟨rfl, by show ((k + 1 : Nat) : Int) = (k : Int) + 1; omega, trivial⟩, trivial⟩)
    | ((with_reducible show (_ ∧ _) ∧ _ ∧ _); (refine eK ?_ ?_ <;> with_reducible repeat' (first | exact trivial | (show _ ∧ _; refine aK ?_ ?_)))))
        all_goals first
          | exact no hok'
          | exact hok'
          | trace_state
      · have e0 : decide (97 ≤ c) = false := decide_eq_false (by omega)
        have e1 : decide (c ≤ 122) = true := decide_eq_true (by omega)
        have e2 : decide (65 ≤ c) = true := decide_eq_true (by omega)
        have e3 : decide (c ≤ 90) = false := decide_eq_false (by omega)
        have e4 : decide (48 ≤ c) = true := decide_eq_true (by omega)
        have e5 : decide (c ≤ 57) = false := decide_eq_false (by omega)
        have e6 : decide (c = 45) = false := decide_eq_false (by omega)
        have e7 : decide (c = 46) = false := decide_eq_false (by omega)
        have e8 : decide (c = 95) = false := decide_eq_false (by omega)
        have e9 : (!decide (c = 95)) = true := by rw [e8]; rfl
        have f5 : (!decide (c ≤ 57)) = !(decide (c ≤ 57)) := rfl
        rw [e5] at f5
        have f6 : (!decide (c = 45)) = !(decide (c = 45)) := rfl
        rw [e6] at f6
        have f7 : (!decide (c = 46)) = !(decide (c = 46)) := rfl
        rw [e7] at f7
        simp only [Bool.not_true, Bool.not_false] at f5
        simp only [Bool.not_true, Bool.not_false] at f6
        simp only [Bool.not_true, Bool.not_false] at f7
        simp only [e0, e1, e2, e3, e4, e5, e6, e7, e8, Bool.and_true, Bool.true_and, Bool.and_false, Bool.false_and, Bool.or_true, Bool.true_or, Bool.or_false, Bool.false_or] at hok'
        cases K0
        all_goals (try simp only [Bool.not_true, Bool.not_false] at hok')
        repeat' (first
    | ((with_reducible show IfK _ _ _ _); first | refine iK ?_ | (refine IfK.mk (fun _ => ?_) (fun _ => ?_) <;> with_reducible refine wK ?_))
    | ((with_reducible show NeedK _ _ _ _); refine nK ?_; with_reducible refine wK ?_)
    | ((with_reducible show NextK _ _); refine NextK.mk (k + 1) ⟨by omega, next ?_⟩ (by omega) ⟨⟨rfl, rfl⟩, ⟨rfl, by show ((k + 1 : Nat) : Int) = (k : Int) + 1; omega, trivial⟩, trivial⟩)
    | ((with_reducible show (_ ∧ _) ∧ _ ∧ _); (refine eK ?_ ?_ <;> with_reducible repeat' (first | exact trivial | (show _ ∧ _; refine aK ?_ ?_)))))
        all_goals first
          | exact no hok'
          | exact hok'
          | trace_state
      · have e0 : decide (97 ≤ c) = true := decide_eq_true (by omega)
        have e1 : decide (c ≤ 122) = true := decide_eq_true (by omega)
        have e2 : decide (65 ≤ c) = true := decide_eq_true (by omega)
        have e3 : decide (c ≤ 90) = false := decide_eq_false (by omega)
        have e4 : decide (48 ≤ c) = true := decide_eq_true (by omega)
        have e5 : decide (c ≤ 57) = false := decide_eq_false (by omega)
        have e6 : decide (c = 45) = false := decide_eq_false (by omega)
        have e7 : decide (c = 46) = false := decide_eq_false (by omega)
        have e8 : decide (c = 95) = false := decide_eq_false (by omega)
        have e9 : (!decide (c = 95)) = true := by rw [e8]; rfl
        have f5 : (!decide (c ≤ 57)) = !(decide (c ≤ 57)) := rfl
        rw [e5] at f5
        have f6 : (!decide (c = 45)) = !(decide (c = 45)) := rfl
        rw [e6] at f6
        have f7 : (!decide (c = 46)) = !(decide (c = 46)) := rfl
        rw [e7] at f7
        simp only [Bool.not_true, Bool.not_false] at f5
        simp only [Bool.not_true, Bool.not_false] at f6
        simp only [Bool.not_true, Bool.not_false] at f7
        simp only [e0, e1, e2, e3, e4, e5, e6, e7, e8, Bool.and_true, Bool.true_and, Bool.and_false, Bool.false_and, Bool.or_true, Bool.true_or, Bool.or_false, Bool.false_or] at hok'
        cases K0
        all_goals (try simp only [Bool.not_true, Bool.not_false] at hok')
        repeat' (first
    | ((with_reducible show IfK _ _ _ _); first | refine iK ?_ | (refine IfK.mk (fun _ => ?_) (fun _ => ?_) <;> with_reducible refine wK ?_))
    | ((with_reducible show NeedK _ _ _ _); refine nK ?_; with_reducible refine wK ?_)
    | ((with_reducible show NextK _ _); refine NextK.mk (k + 1) ⟨by omega, next ?_⟩ (by omega) ⟨⟨rfl, rfl⟩, ⟨rfl, by show ((k + 1 : Nat) : Int) = (k : Int) + 1; omega, trivial⟩, trivial⟩)
    | ((with_reducible show (_ ∧ _) ∧ _ ∧ _); (refine eK ?_ ?_ <;> with_reducible repeat' (first | exact trivial | (show _ ∧ _; refine aK ?_ ?_)))))
        all_goals first
          | exact no hok'
          | exact hok'
          | trace_state
      · have e0 : decide (97 ≤ c) = true := decide_eq_true (by omega)
        have e1 : decide (c ≤ 122) = false := decide_eq_false (by omega)
        have e2 : decide (65 ≤ c) = true := decide_eq_true (by omega)
        have e3 : decide (c ≤ 90) = false := decide_eq_false (by omega)
        have e4 : decide (48 ≤ c) = true := decide_eq_true (by omega)
        have e5 : decide (c ≤ 57) = false := decide_eq_false (by omega)
        have e6 : decide (c = 45) = false := decide_eq_false (by omega)
        have e7 : decide (c = 46) = false := decide_eq_false (by omega)
        have e8 : decide (c = 95) = false := decide_eq_false (by omega)
        have e9 : (!decide (c = 95)) = true := by rw [e8]; rfl
        have f5 : (!decide (c ≤ 57)) = !(decide (c ≤ 57)) := rfl
        rw [e5] at f5
        have f6 : (!decide (c = 45)) = !(decide (c = 45)) := rfl
        rw [e6] at f6
        have f7 : (!decide (c = 46)) = !(decide (c = 46)) := rfl
        rw [e7] at f7
        simp only [Bool.not_true, Bool.not_false] at f5
        simp only [Bool.not_true, Bool.not_false] at f6
        simp only [Bool.not_true, Bool.not_false] at f7
        simp only [e0, e1, e2, e3, e4, e5, e6, e7, e8, Bool.and_true, Bool.true_and, Bool.and_false, Bool.false_and, Bool.or_true, Bool.true_or, Bool.or_false, Bool.false_or] at hok'
        cases K0
        all_goals (try simp only [Bool.not_true, Bool.not_false] at hok')
        repeat' (first
    | ((with_reducible show IfK _ _ _ _); first | refine iK ?_ | (refine IfK.mk (fun _ => ?_) (fun _ => ?_) <;> with_reducible refine wK ?_))
    | ((with_reducible show NeedK _ _ _ _); refine nK ?_; with_reducible refine wK ?_)
    | ((with_reducible show NextK _ _); refine NextK.mk (k + 1) ⟨by omega, next ?_⟩ (by omega) ⟨⟨rfl, rfl⟩, ⟨rfl, by show ((k + 1 : Nat) : Int) = (k : Int) + 1; omega, trivial⟩, trivial⟩)
    | ((with_reducible show (_ ∧ _) ∧ _ ∧ _); (refine eK ?_ ?_ <;> with_reducible repeat' (first | exact trivial | (show _ ∧ _; refine aK ?_ ?_)))))
        all_goals first
          | exact no hok'
          | exact hok'
          | trace_state
    · (refine eK ?_ ?_ <;> with_reducible repeat' (first | exact trivial | (show _ ∧ _; refine aK ?_ ?_)))
      exact hr.2 fun i b hb => hok i b (by have := (List.getElem?_eq_some_iff.1 hb).1; simp only [decide_eq_false_iff_not] at h1; have := size_len s; omega) hb
end Go.Proofs.Heir
end
section
set_option linter.unusedSimpArgs false
set_option linter.unusedVariables false
namespace Go.Proofs.Heir
open Go.Am Go.RowKit Go.Lib
set_option maxRecDepth 100000
set_option maxHeartbeats 8000000
end Go.Proofs.Heir
end
section
set_option linter.unusedSimpArgs false
set_option linter.unusedVariables false
namespace Go.Proofs
open Go.Shelf
def Tryz.lays144_ren : Go.Shelf.Ren := ⟨fun | 144 => 143 | 143 => 179 | 219 => 198 | 217 => 211 | 225 => 212 | 224 => 213 | 267 => 214 | 266 => 222 | 314 => 223 | n => n, fun | 9 => 9 | 4 => 4 | 3 => 3 | 5 => 5 | 46 => 242 | 146 => 265 | 51 => 246 | n => n, fun | 1 => 2 | n => n⟩
theorem Tryz.lays144 : Go.Proofs.Lays.n144 Tryz.prog Tryz.lays144_ren := {
  mixed := by kernel_rfl
  f143 := Tryz.func179.trans (congrArg some (by kernel_rfl))
  f144 := Tryz.func143.trans (congrArg some (by kernel_rfl))
  f217 := Tryz.func211.trans (congrArg some (by kernel_rfl))
  f219 := Tryz.func198.trans (congrArg some (by kernel_rfl))
  f224 := Tryz.func213.trans (congrArg some (by kernel_rfl))
  f225 := Tryz.func212.trans (congrArg some (by kernel_rfl))
  f266 := Tryz.func222.trans (congrArg some (by kernel_rfl))
  f267 := Tryz.func214.trans (congrArg some (by kernel_rfl))
  f314 := Tryz.func223.trans (congrArg some (by kernel_rfl))
  t3 := Tryz.underlying3
  a3 := Tryz.isAgg3
  z3 := Tryz.sizeOf3
  v3 := Tryz.zeroValue3
  t4 := Tryz.underlying4
  a4 := Tryz.isAgg4
  z4 := Tryz.sizeOf4
  v4 := Tryz.zeroValue4
  t5 := Tryz.underlying5
  a5 := Tryz.isAgg5
  z5 := Tryz.sizeOf5
  v5 := Tryz.zeroValue5
  t9 := Tryz.underlying9
  a9 := Tryz.isAgg9
  z9 := Tryz.sizeOf9
  v9 := Tryz.zeroValue9
  t46 := Tryz.underlying242
  a46 := Tryz.isAgg242
  z46 := Tryz.sizeOf242
  v46 := Tryz.zeroValue242
  t51 := Tryz.underlying246
  a51 := Tryz.isAgg246
  z51 := Tryz.sizeOf246
  v51 := Tryz.zeroValue246
  t146 := Tryz.underlying265
  a146 := Tryz.isAgg265
  z146 := Tryz.sizeOf265
  v146 := Tryz.zeroValue265
  g1 := by kernel_rfl }
open Go.RowKit Go.Lib in
theorem Tryz.strings_Contains_one (s : ByteArray) (c : UInt8) (w : World) :
    Calls Tryz.prog 143 #[.string s, .string ⟨#[c]⟩] w fun e w' => e = .returned (.bool (decide (0 ≤ Lib.indexByte s.data.toList c))) ∧ w' = w := Any.strings_Contains_one Tryz.lays144 s c w
def Tryz.lays157_ren : Go.Shelf.Ren := ⟨fun | 157 => 181 | 229 => 199 | 199 => 200 | 261 => 215 | 311 => 224 | 312 => 225 | n => n, fun | 9 => 9 | 31 => 59 | 3 => 3 | 5 => 5 | 4 => 4 | 119 => 226 | 0 => 0 | 40 => 176 | 152 => 243 | 21 => 21 | 154 => 245 | 51 => 246 | 141 => 248 | 196 => 270 | 193 => 267 | 198 => 273 | 49 => 271 | 194 => 268 | 201 => 276 | 226 => 278 | 46 => 242 | 227 => 279 | n => n, fun | 0 => 0 | 6 => 3 | n => n⟩
theorem Tryz.lays157 : Go.Proofs.Lays.n157 Tryz.prog Tryz.lays157_ren := {
  mixed := by kernel_rfl
  f157 := Tryz.func181.trans (congrArg some (by kernel_rfl))
  f199 := Tryz.func200.trans (congrArg some (by kernel_rfl))
  f229 := Tryz.func199.trans (congrArg some (by kernel_rfl))
  f261 := Tryz.func215.trans (congrArg some (by kernel_rfl))
  f311 := Tryz.func224.trans (congrArg some (by kernel_rfl))
  f312 := Tryz.func225.trans (congrArg some (by kernel_rfl))
  t0 := Tryz.underlying0
  a0 := Tryz.isAgg0
  z0 := Tryz.sizeOf0
  v0 := Tryz.zeroValue0
  t3 := Tryz.underlying3
  a3 := Tryz.isAgg3
  z3 := Tryz.sizeOf3
  v3 := Tryz.zeroValue3
  t4 := Tryz.underlying4
  a4 := Tryz.isAgg4
  z4 := Tryz.sizeOf4
  v4 := Tryz.zeroValue4
  t5 := Tryz.underlying5
  a5 := Tryz.isAgg5
  z5 := Tryz.sizeOf5
  v5 := Tryz.zeroValue5
  t9 := Tryz.underlying9
  a9 := Tryz.isAgg9
  z9 := Tryz.sizeOf9
  v9 := Tryz.zeroValue9
  t21 := Tryz.underlying21
  a21 := Tryz.isAgg21
  z21 := Tryz.sizeOf21
  v21 := Tryz.zeroValue21
  t31 := Tryz.underlying59
  a31 := Tryz.isAgg59
  z31 := Tryz.sizeOf59
  v31 := Tryz.zeroValue59
  t40 := Tryz.underlying176
  a40 := Tryz.isAgg176
  z40 := Tryz.sizeOf176
  v40 := Tryz.zeroValue176
  t46 := Tryz.underlying242
  a46 := Tryz.isAgg242
  z46 := Tryz.sizeOf242
  v46 := Tryz.zeroValue242
  t49 := Tryz.underlying271
  a49 := Tryz.isAgg271
  z49 := Tryz.sizeOf271
  v49 := Tryz.zeroValue271
  t51 := Tryz.underlying246
  a51 := Tryz.isAgg246
  z51 := Tryz.sizeOf246
  v51 := Tryz.zeroValue246
  t119 := Tryz.underlying226
  a119 := Tryz.isAgg226
  z119 := Tryz.sizeOf226
  t141 := Tryz.underlying248
  a141 := Tryz.isAgg248
  z141 := Tryz.sizeOf248
  v141 := Tryz.zeroValue248
  t152 := Tryz.underlying243
  a152 := Tryz.isAgg243
  z152 := Tryz.sizeOf243
  v152 := Tryz.zeroValue243
  t154 := Tryz.underlying245
  a154 := Tryz.isAgg245
  z154 := Tryz.sizeOf245
  v154 := Tryz.zeroValue245
  t193 := Tryz.underlying267
  a193 := Tryz.isAgg267
  z193 := Tryz.sizeOf267
  v193 := Tryz.zeroValue267
  t194 := Tryz.underlying268
  a194 := Tryz.isAgg268
  z194 := Tryz.sizeOf268
  v194 := Tryz.zeroValue268
  t196 := Tryz.underlying270
  a196 := Tryz.isAgg270
  z196 := Tryz.sizeOf270
  v196 := Tryz.zeroValue270
  t198 := Tryz.underlying273
  a198 := Tryz.isAgg273
  z198 := Tryz.sizeOf273
  v198 := Tryz.zeroValue273
  t201 := Tryz.underlying276
  a201 := Tryz.isAgg276
  z201 := Tryz.sizeOf276
  v201 := Tryz.zeroValue276
  t226 := Tryz.underlying278
  a226 := Tryz.isAgg278
  z226 := Tryz.sizeOf278
  v226 := Tryz.zeroValue278
  t227 := Tryz.underlying279
  a227 := Tryz.isAgg279
  z227 := Tryz.sizeOf279
  v227 := Tryz.zeroValue279
  g0 := by kernel_rfl
  g6 := by kernel_rfl }
end Go.Proofs
end
section
set_option linter.unusedSimpArgs false
set_option linter.unusedVariables false
namespace Go.Proofs.Heir
open Go.Am Go.RowKit Go.Lib
set_option maxRecDepth 100000
def oStr (s : ByteArray) : AV := eStr s
@[reducible] def eStrs (l : List ByteArray) : AV := .sl 1 (l.map oStr)
@[reducible] def rStrs (l : List ByteArray) : MS := .live 1 (l.map oStr) false
theorem noRef_strs (l : List ByteArray) : noRefL (l.map oStr) = true := by
  rw [noRefL_iff]; intro x hx
  obtain ⟨a, _, rfl⟩ := List.mem_map.1 hx
  rfl
theorem strs_get {l : List ByteArray} {k : Nat} {a : ByteArray} (h : l[k]? = some a) : (l.map oStr)[k]? = some (eStr a) := by rw [List.getElem?_map, h]; rfl
theorem strs_outs (l : List ByteArray) : okOuts [rStrs l] := ⟨Wide.of_mem fun r hr => by obtain ⟨a, _, rfl⟩ := List.mem_map.1 hr; rfl, noRef_strs l, trivial⟩
theorem frz_strs {m : ML} {fz : Nat → Bool} {tab : List (Nat × Nat)} {n t len : Nat} {ro : Bool} {rows : List AV} {l : List ByteArray} (h1 : lkM m t = .live 1 rows ro) (h2 : fz t = true) (h3 : rows = l.map oStr) (h4 : len = l.length) : FrzK m fz (MF tab fz m n) (eStrs l) t 0 len := by
  subst h3; subst h4
  have e : (l.map oStr).length = l.length := List.length_map ..
  exact .cut h1 h2 (by omega) (by rw [List.drop_zero, List.take_of_length_le (by omega)]) (noRef_strs l)
theorem f180_ok (l : List ByteArray) (hl : l.length ≤ 100000) (s : ByteArray) : FnOK Tryz.prog 180 [] [eStrs l, eStr s] [] (eInt (idxI (fun x => decide (x = s)) l)) := by
  have hlm : (l.map oStr).length = l.length := List.length_map ..
  refine FnOK.startC (rvs := [.tmp 4]) G G_good Tryz.func180 rfl Tryz.ntmps180 rfl rfl ?_; with_reducible refine wD ?_
  refine LoopK.use G G_good (fun (k : Nat) => [(0, eStrs l), (1, eStr s), (7, eInt l.length), (8, eInt k)]) (fun _ => []) (fun k => k ≤ l.length ∧ ∀ j x, j < k → l[j]? = some x → decide (x = s) = false) (fun k => l.length - k) 0 ⟨Nat.zero_le _, fun j x h => by omega⟩
    ⟨⟨rfl, rfl⟩, ⟨rfl, rfl, by show (l.length : Int) = ((l.map oStr).length : Int); rw [hlm], rfl, trivial⟩, trivial⟩ ?_
  rintro k ⟨hk, hno⟩
  with_reducible refine wK ?_
  refine IfK.mk (fun h1 => ?_) (fun h1 => ?_) <;> (try simp only [castN] at h1) <;> with_reducible refine wK ?_
  · simp only [decide_eq_true_eq] at h1
    have hk' : k < l.length := by omega
    obtain ⟨a, ha⟩ : ∃ a, l[k]? = some a := ⟨_, List.getElem?_eq_getElem hk'⟩
    refine IdxK.mk k (eStr a) rfl (strs_get ha) ?_; with_reducible refine wK ?_
    refine IfK.mk (fun h2 => ?_) (fun h2 => ?_) <;> (try simp only [castN] at h2) <;> with_reducible refine wK ?_
    · (refine eK ?_ ?_ <;> with_reducible repeat' (first | exact trivial | (show _ ∧ _; refine aK ?_ ?_)))
      refine idxI_hit (p := fun x => decide (x = s)) ha ?_ hno
      simp only [decide_eq_true_eq] at h2 ⊢; exact h2.symm
    · refine nK ?_; with_reducible refine wK ?_
      refine NextK.mk (k + 1) ⟨by omega, fun j x hj hx => ?_⟩ (by omega) ⟨⟨rfl, rfl⟩, ⟨rfl, rfl, rfl, by show ((k + 1 : Nat) : Int) = (k : Int) + 1; omega, trivial⟩, trivial⟩
      rcases Nat.lt_or_ge j k with h3 | h3
      · exact hno j x h3 hx
      · have : j = k := by omega
        subst this
        rw [ha] at hx; cases hx
        simp only [decide_eq_false_iff_not] at h2 ⊢; exact fun e => h2 e.symm
  · (refine eK ?_ ?_ <;> with_reducible repeat' (first | exact trivial | (show _ ∧ _; refine aK ?_ ?_)))
    exact idxI_none fun j x hx => hno j x (by have := (List.getElem?_eq_some_iff.1 hx).1; simp only [decide_eq_false_iff_not] at h1; omega) hx
def hasW (l : List ByteArray) (s : ByteArray) : Bool := l.any fun x => decide (x = s)
theorem hasW_iff {l : List ByteArray} {s : ByteArray} : hasW l s = true ↔ s ∈ l := by
  unfold hasW; rw [List.any_eq_true]
  exact ⟨fun ⟨x, hx, e⟩ => by rw [← of_decide_eq_true e]; exact hx, fun h => ⟨s, h, decide_eq_true rfl⟩⟩
theorem idxI_mem {l : List ByteArray} {s : ByteArray} : decide (0 ≤ idxI (fun x => decide (x = s)) l) = hasW l s := by
  rw [Bool.eq_iff_iff, decide_eq_true_eq, hasW_iff]
  unfold idxI
  cases h : l.findIdx? (fun x => decide (x = s)) with
  | none =>
    rw [List.findIdx?_eq_none_iff] at h
    simp only
    refine ⟨fun h' => by omega, fun hs => ?_⟩
    have := h s hs
    simp at this
  | some k =>
    rw [List.findIdx?_eq_some_iff_getElem] at h
    obtain ⟨hk, h2, _⟩ := h
    simp only
    exact ⟨fun _ => by rw [← of_decide_eq_true h2]; exact List.getElem_mem hk, fun _ => by omega⟩
theorem f144_ok (l : List ByteArray) (hl : l.length ≤ 100000) (s : ByteArray) : FnOK Tryz.prog 144 [] [eStrs l, eStr s] [] (eBool (hasW l s)) := by
  rw [← idxI_mem]
  refine FnOK.startC (rvs := [.tmp 4]) G G_good Tryz.func144 rfl Tryz.ntmps144 rfl rfl ?_; with_reducible refine wD ?_
  refine CallK.lit [] (f180_ok l hl s) c180 ⟨rfl, rfl, trivial⟩ rfl rfl ?_; with_reducible refine wK ?_
  (refine eK ?_ ?_ <;> with_reducible repeat' (first | exact trivial | (show _ ∧ _; refine aK ?_ ?_)))
def strB (l : List UInt8) : ByteArray := ⟨l.toArray⟩
def resL : List ByteArray := [strB [97, 110, 110, 111, 116, 97, 116, 105, 111, 110, 45, 120, 109, 108], strB [99, 111, 108, 111, 114, 45, 112, 114, 111, 102, 105, 108, 101], strB [102, 111, 110, 116, 45, 102, 97, 99, 101], strB [102, 111, 110, 116, 45, 102, 97, 99, 101, 45, 115, 114, 99],
  strB [102, 111, 110, 116, 45, 102, 97, 99, 101, 45, 117, 114, 105], strB [102, 111, 110, 116, 45, 102, 97, 99, 101, 45, 102, 111, 114, 109, 97, 116], strB [102, 111, 110, 116, 45, 102, 97, 99, 101, 45, 110, 97, 109, 101], strB [109, 105, 115, 115, 105, 110, 103, 45, 103, 108, 121, 112, 104]]
theorem f145_ok : FnOK Tryz.prog 145 [] [] [rStrs resL] (.own 0 0 8) := by
  refine FnOK.startC (rvs := [.tmp 0]) G G_good Tryz.func145 rfl Tryz.ntmps145 rfl rfl ?_; with_reducible refine wD ?_
  (refine eK ?_ ?_ <;> with_reducible repeat' (first | exact trivial | (show _ ∧ _; refine aK ?_ ?_)))
  all_goals first | rfl | exact MFL_refl (noRef_strs resL)
theorem f143_ok (s : ByteArray) (c : UInt8) : FnOK Tryz.prog 143 [] [eStr s, eStr ⟨#[c]⟩] [] (eBool (decide (0 ≤ Lib.indexByte s.data.toList c))) :=
  FnOK.of_calls (vs := [.string s, .string ⟨#[c]⟩]) (v := .bool _) fun w _ => (Go.Proofs.Tryz.strings_Contains_one s c w).mono fun e w' ⟨h1, h2⟩ => ⟨h1, by rw [h2]; exact Below.refl _ w⟩
end Go.Proofs.Heir
end
section
set_option linter.unusedSimpArgs false
set_option linter.unusedVariables false
namespace Go.Proofs.Heir
open Go.Am Go.RowKit Go.Lib
set_option maxRecDepth 100000
set_option maxHeartbeats 8000000
def segsGo (cur : List UInt8) : List UInt8 → List (List UInt8)
  | [] => [cur]
  | c :: r => if c = 32 then cur :: segsGo [] r else segsGo (cur ++ [c]) r
def isW (s : ByteArray) (g : List UInt8) : Bool := decide (strOf g = s)
def oneW (s : ByteArray) (ws : List UInt8) : Bool := (segsGo [] ws).any (isW s)
theorem cut_strOf (s : ByteArray) (a b : Nat) : s.extract a b = strOf ((s.data.toList.take b).drop a) := by
  obtain ⟨l, rfl⟩ : ∃ l : List UInt8, s = ⟨l.toArray⟩ := ⟨s.data.toList, by obtain ⟨⟨l⟩⟩ := s; rfl⟩
  rw [ByteArray.extract_mk]
  unfold strOf
  rw [List.drop_take]
theorem seg_next {l : List UInt8} {i : Nat} {c : UInt8} (h : l[i]? = some c) (cur : List UInt8) : segsGo cur (l.drop i) = if c = 32 then cur :: segsGo [] (l.drop (i + 1)) else segsGo (cur ++ [c]) (l.drop (i + 1)) := by
  have hk := (List.getElem?_eq_some_iff.1 h).1
  rw [List.drop_eq_getElem_cons hk, (List.getElem?_eq_some_iff.1 h).2]; rfl
theorem cur_next {l : List UInt8} {i a : Nat} {c : UInt8} (h : l[i]? = some c) (ha : a ≤ i) : (l.take (i + 1)).drop a = (l.take i).drop a ++ [c] := by
  have hk := (List.getElem?_eq_some_iff.1 h).1
  rw [List.take_succ_eq_append_getElem hk, (List.getElem?_eq_some_iff.1 h).2, List.drop_append_of_le_length (by simp; omega)]
structure OneI (s : ByteArray) (l : List UInt8) (i a : Nat) : Prop where
  le : a ≤ i
  hi : i ≤ l.length + 1
  mid : i ≤ l.length → oneW s l = (segsGo ((l.take i).drop a) (l.drop i)).any (isW s)
  fin : l.length < i → oneW s l = false
theorem is_32 {c : UInt8} : decide ((c.toNat : Int) = 32) = decide (c = 32) := by
  rw [decide_eq_decide]
  constructor
  · intro h
    have : c.toNat = (32 : UInt8).toNat := by have : (32 : UInt8).toNat = 32 := rfl
                                              omega
    exact UInt8.toNat_inj.1 this
  · rintro rfl; rfl
theorem f102_ok (s w : ByteArray) (hw : w.size ≤ 100000) : FnOK Tryz.prog 102 [] [eStr s, eStr w] [] (eBool (oneW s w.data.toList)) := by
  have hsz : w.size = w.data.toList.length := size_len w
  have hcut := cut_strOf w
  obtain ⟨l, hl⟩ : ∃ l, w.data.toList = l := ⟨_, rfl⟩
  rw [hl] at hsz hcut ⊢
  refine FnOK.startC (rvs := [.tmp 4]) G G_good Tryz.func102 rfl Tryz.ntmps102 rfl rfl ?_; with_reducible refine wD ?_
  refine LoopK.use G G_good (fun (p : Nat × Nat) => [(0, eStr s), (1, eStr w), (5, eInt p.2), (6, eInt p.1)]) (fun _ => []) (fun p => OneI s l p.1 p.2) (fun p => l.length + 1 - p.1) (0, 0) ⟨Nat.le_refl _, Nat.zero_le _, fun _ => rfl, fun h => by omega⟩
    ⟨⟨rfl, rfl⟩, ⟨rfl, rfl, rfl, rfl, trivial⟩, trivial⟩ ?_
  rintro ⟨i, a⟩ hI
  have h1 := hI.le
  have h2 := hI.hi
  simp only at h1 h2
  with_reducible refine wK ?_
  refine IfK.mk (fun g1 => ?_) (fun g1 => ?_) <;> (try simp only [castN] at g1) <;> with_reducible refine wK ?_
  · simp only [decide_eq_true_eq] at g1
    have hil : i ≤ l.length := by omega
    have hm := hI.mid hil
    simp only at hm
    refine IfK.mk (fun g2 => ?_) (fun g2 => ?_) <;> (try simp only [castN] at g2) <;> with_reducible refine wK ?_
    · simp only [decide_eq_true_eq] at g2
      have hie : i = l.length := by omega
      have hd : l.drop i = [] := by rw [hie]; exact List.drop_length
      rw [hd] at hm
      refine IfK.tt ?_; with_reducible refine wK ?_
      refine CutSK.mk a i rfl rfl h1 (by show i ≤ w.size; omega) ?_; with_reducible refine wK ?_
      rw [hcut]
      refine IfK.mk (fun g3 => ?_) (fun g3 => ?_) <;> (try simp only [castN] at g3) <;> with_reducible refine wK ?_
      · (refine eK ?_ ?_ <;> with_reducible repeat' (first | exact trivial | (show _ ∧ _; refine aK ?_ ?_)))
        rw [hm]
        simp only [segsGo, List.any_cons, List.any_nil, Bool.or_false, isW]
        simpa using g3
      · refine nK ?_; with_reducible refine wK ?_
        refine nK ?_; with_reducible refine wK ?_
        refine NextK.mk (i + 1, i + 1) ⟨Nat.le_refl _, by show i + 1 ≤ l.length + 1; omega, fun h => ?_, fun _ => ?_⟩ (by show l.length + 1 - (i + 1) < l.length + 1 - i; omega) ⟨⟨rfl, rfl⟩, ⟨rfl, rfl, by show ((i + 1 : Nat) : Int) = (i : Int) + 1; omega, by show ((i + 1 : Nat) : Int) = (i : Int) + 1; omega, trivial⟩, trivial⟩
        · simp only at h; omega
        · rw [hm]
          simp only [segsGo, List.any_cons, List.any_nil, Bool.or_false, isW]
          simpa using g3
    · have hi2 : i < l.length := by simp only [decide_eq_false_iff_not] at g2; omega
      obtain ⟨c, hc⟩ : ∃ c, l[i]? = some c := ⟨_, List.getElem?_eq_getElem hi2⟩
      refine IdxSK.mk i c rfl (by rw [hl]; exact hc) ?_; with_reducible refine wK ?_
      rw [is_32]
      have hsg := seg_next hc ((l.take i).drop a)
      rw [hsg] at hm
      by_cases hb : c = 32
      · rw [if_pos hb] at hm
        refine IfK.yes (by simp [hb]) ?_; with_reducible refine wK ?_
        refine CutSK.mk a i rfl rfl h1 (by show i ≤ w.size; omega) ?_; with_reducible refine wK ?_
        rw [hcut]
        refine IfK.mk (fun g3 => ?_) (fun g3 => ?_) <;> (try simp only [castN] at g3) <;> with_reducible refine wK ?_
        · (refine eK ?_ ?_ <;> with_reducible repeat' (first | exact trivial | (show _ ∧ _; refine aK ?_ ?_)))
          rw [hm]
          simp only [List.any_cons, isW]
          simp at g3
          simp [g3]
        · refine nK ?_; with_reducible refine wK ?_
          refine nK ?_; with_reducible refine wK ?_
          refine NextK.mk (i + 1, i + 1) ⟨Nat.le_refl _, by show i + 1 ≤ l.length + 1; omega, fun h => ?_, fun h => ?_⟩ (by show l.length + 1 - (i + 1) < l.length + 1 - i; omega) ⟨⟨rfl, rfl⟩, ⟨rfl, rfl, by show ((i + 1 : Nat) : Int) = (i : Int) + 1; omega, by show ((i + 1 : Nat) : Int) = (i : Int) + 1; omega, trivial⟩, trivial⟩
          · rw [hm]
            simp only [List.any_cons]
            have : isW s ((l.take i).drop a) = false := by unfold isW; simpa using g3
            rw [this, Bool.false_or, show (l.take (i + 1)).drop (i + 1) = [] from List.drop_eq_nil_of_le (by simp; omega)]
          · simp only at h; omega
      · rw [if_neg hb] at hm
        refine IfK.no (by simp [hb]) ?_; with_reducible refine wK ?_
        refine nK ?_; with_reducible refine wK ?_
        refine NextK.mk (i + 1, a) ⟨by show a ≤ i + 1; omega, by show i + 1 ≤ l.length + 1; omega, fun h => ?_, fun h => ?_⟩ (by show l.length + 1 - (i + 1) < l.length + 1 - i; omega) ⟨⟨rfl, rfl⟩, ⟨rfl, rfl, rfl, by show ((i + 1 : Nat) : Int) = (i : Int) + 1; omega, trivial⟩, trivial⟩
        · rw [hm, cur_next hc h1]
        · simp only at h; omega
  · (refine eK ?_ ?_ <;> with_reducible repeat' (first | exact trivial | (show _ ∧ _; refine aK ?_ ?_)))
    exact hI.fin (by simp only [decide_eq_false_iff_not] at g1; show l.length < i; omega)
end Go.Proofs.Heir
end
section
set_option linter.unusedSimpArgs false
set_option linter.unusedVariables false
namespace Go.Proofs.Heir
open Go.Am Go.RowKit Go.Lib
set_option maxRecDepth 100000
set_option maxHeartbeats 8000000
@[reducible] def knowB : List UInt8 := [97, 32, 98, 32, 98, 117, 116, 116, 111, 110, 32, 100, 105, 118, 32, 102, 105, 101, 108, 100, 115, 101, 116, 32, 102, 111, 114, 109, 32, 105, 32, 105, 110, 112, 117, 116, 32, 108, 97, 98, 101, 108, 32, 108, 101, 103, 101, 110, 100, 32, 108, 105, 32, 111, 112, 116, 105, 111, 110, 32, 111, 117, 116, 112, 117, 116, 32, 112, 32, 115, 101, 108, 101, 99, 116, 32, 115, 112, 97, 110, 32, 116, 101, 109, 112, 108, 97, 116, 101, 32, 116, 101, 120, 116, 97, 114, 101, 97, 32, 117, 108]
def knowL : List ByteArray := (Lib.fields knowB).map strB
theorem knowL_len : (Lib.fields knowB).length = 19 := by decide +kernel
theorem know_ascii : ∀ (j : Nat) b, (ByteArray.mk knowB.toArray).data.toList[j]? = some b → b.toNat < 128 := by
  intro j b h
  have h1 : knowB.all (fun b => decide (b.toNat < 128)) = true := by decide +kernel
  exact of_decide_eq_true (List.all_eq_true.1 h1 b (List.mem_of_getElem? h))
theorem flat_strs (l : List ByteArray) : flat (l.map oStr) = l.map oStr := by
  induction l with
  | nil => rfl
  | cons a r ih => show cells (oStr a) ++ flat (r.map oStr) = _; rw [ih]; rfl
theorem FnOK.at_strs {P : Program} {f : FuncId} {l : List ByteArray} {s : ByteArray} {b : Bool} (h : FnOK P f [] [eStrs l, eStr s] [] (eBool b)) {w : World} {blk cap : Nat} {arr : Array Value} {ty : TypeId} {fz : Nat × Nat} (hh : w.heap[blk]? = some (.cells arr ty fz))
    (harr : ∀ (i : Nat) (x : ByteArray), l[i]? = some x → arr[i]? = some (.string x)) (hcap : l.length ≤ cap) (ht : Tabs P w fun _ => none) :
    Calls P f #[.slice (some ⟨blk, 0, none⟩) l.length cap, .string s] w fun e w' => e = .returned (.bool b) ∧ Below w.heap.size w w' := by
  have hW : ∀ b, ¬ Wr (fun _ => False) (fun _ => none) (objsOf []) b := by
    rintro b (h | ⟨t, B, wd, rows, _, h, _⟩)
    · exact h
    · cases h
  have hblk : blk < w.heap.size := (Array.getElem?_eq_some_iff.1 hh).1
  refine (h w (fun _ => False) (fun _ => none) [.slice (some ⟨blk, 0, none⟩) l.length cap, .string s] (fun _ _ => rfl) (sim_start w ht) ⟨rfl, ?_⟩).mono ?_
  · intro j c v h1 h2
    match j with
    | 0 =>
      simp at h1 h2; subst h1; subst h2
      have key : ∀ (q : Nat) (c : AV), (flat (l.map oStr))[q]? = some c → ∃ x, l[q]? = some x ∧ c = eStr x := by
        intro q c hq
        rw [flat_strs, List.getElem?_map] at hq
        cases hx : l[q]? with
        | none => rw [hx] at hq; cases hq
        | some x => rw [hx] at hq; exact ⟨x, rfl, (Option.some.inj hq).symm⟩
      refine .sl (f := fun q => arr.getD q undef) (hW _) hblk (by simp) hcap (fun i r hr => ?_) (fun q c hq => ?_) (fun q c hq => ?_) (fun c hc => ?_)
      · rw [List.getElem?_map] at hr
        cases hx : l[i]? with
        | none => rw [hx] at hr; cases hr
        | some x => rw [hx] at hr; cases hr; rfl
      · obtain ⟨x, hx, rfl⟩ := key q c hq
        have := harr q x hx
        simp [World.cell?, hh, this, Array.getD_eq_getD_getElem?]
      · obtain ⟨x, hx, rfl⟩ := key q c hq
        have := harr q x hx
        simp only [Array.getD_eq_getD_getElem?, this, Option.getD_some]
        exact .lit
      · rw [flat_strs] at hc
        obtain ⟨x, _, rfl⟩ := List.mem_map.1 hc
        rfl
    | 1 => simp at h1 h2; subst h1; subst h2; exact .lit
    | j + 2 => simp at h1
  · rintro e w' ⟨v', μ', rfl, hs, hv⟩
    cases hv
    exact ⟨rfl, hs.os, hs.tape, hs.output, hs.hsize, fun b hb => hs.keep b hb (by rintro ⟨t, B, h, _⟩; cases h)⟩
theorem f151_calls (w : World) (ht : Tabs Tryz.prog w fun _ => none) : Calls Tryz.prog 151 #[] w fun e w' => e = .returned (.slice (some ⟨w.heap.size, 0, none⟩) 19 19) ∧ w' = w.alloc (.cells (knowL.map Value.string).toArray 9) := by
  have hf := Any.strings_Fields_core Go.Proofs.Tryz.lays157 (by kernel_rfl) (ByteArray.mk knowB.toArray) w (by decide) know_ascii (fun c hc => ((ht _ (by kernel_rfl)).2.2 c hc))
  have e1 : (ByteArray.mk knowB.toArray).data.toList = knowB := rfl
  rw [e1, knowL_len, show ((Lib.fields knowB).map fun l => Value.string ⟨l.toArray⟩) = knowL.map Value.string from by unfold knowL; rw [List.map_map]; rfl] at hf
  go_enter Tryz.func151, Tryz.ntmps151
  go_wp2_with (go_at_call 181; refine hf.mono ?_; rintro e w1 ⟨rfl, rfl⟩)
  go_ret
  exact ⟨rfl, rfl⟩
theorem f99_ok (s : ByteArray) : FnOK Tryz.prog 99 [] [eStr s] [] (eBool (hasW knowL s)) := by
  refine FnOK.of_calls (vs := [.string s]) (v := .bool (hasW knowL s)) fun w ht => ?_
  have hl : knowL.length = 19 := by unfold knowL; rw [List.length_map, knowL_len]
  have h29 := f151_calls w ht
  have hb : Below w.heap.size w (w.alloc (.cells (knowL.map Value.string).toArray 9)) := (Below.refl _ w).alloc (Nat.le_refl _) _
  have h26 := FnOK.at_strs (f144_ok knowL (by omega) s) (w := w.alloc (.cells (knowL.map Value.string).toArray 9)) (blk := w.heap.size) (cap := 19) (heap_alloc_new w _) (fun i x hx => by simp [hx]) (by omega) (ht.below hb)
  rw [hl] at h26
  go_enter Tryz.func99, Tryz.ntmps99
  go_wp2_with (first
    | (go_at_call 151; refine h29.mono ?_; rintro e w1 ⟨rfl, rfl⟩)
    | (go_at_call 144; refine h26.mono ?_; rintro e w2 ⟨rfl, hb2⟩))
  go_ret
  exact ⟨rfl, hb.trans (hb2.mono hb.size)⟩
end Go.Proofs.Heir
end
section
set_option linter.unusedSimpArgs false
set_option linter.unusedVariables false
namespace Go.Proofs.Heir
open Go.Am Go.RowKit Go.Lib
set_option maxRecDepth 100000
set_option maxHeartbeats 8000000
@[reducible] def resB : List UInt8 := [97, 110, 110, 111, 116, 97, 116, 105, 111, 110, 45, 120, 109, 108, 32, 99, 111, 108, 111, 114, 45, 112, 114, 111, 102, 105, 108, 101, 32, 102, 111, 110, 116, 45, 102, 97, 99, 101, 32, 102, 111, 110, 116, 45, 102, 97, 99, 101, 45, 115, 114, 99, 32, 102, 111, 110, 116, 45, 102, 97, 99, 101, 45, 117, 114, 105, 32, 102, 111, 110, 116, 45, 102, 97, 99, 101, 45, 102, 111, 114, 109, 97, 116, 32, 102, 111, 110, 116, 45, 102, 97, 99, 101, 45, 110, 97, 109, 101, 32, 109, 105, 115, 115, 105, 110, 103, 45, 103, 108, 121, 112, 104]
def noS' : ByteArray := ⟨#[]⟩
def dashB (l : List UInt8) : Bool := l.any (fun b => decide (b = 45))
def capsB (l : List UInt8) : Bool := l.any (fun b => capC (b.toNat : Int))
def lowFirst : List UInt8 → Bool
  | [] => false
  | b :: _ => smallC (b.toNat : Int)
def customS (s : ByteArray) : Bool := rightS s && (lowFirst s.data.toList && (!capsB s.data.toList && (dashB s.data.toList && !hasW resL s)))
theorem res_words (s : ByteArray) : oneW s resB = hasW resL s := by
  have e : (segsGo [] resB).map strOf = resL := by decide +kernel
  unfold oneW hasW
  rw [← e, List.any_map]
  rfl
theorem know_words (s : ByteArray) : oneW s knowB = hasW knowL s := by
  have e : (segsGo [] knowB).map strOf = knowL := by decide +kernel
  unfold oneW hasW
  rw [← e, List.any_map]
  rfl
theorem dash_index (l : List UInt8) : decide (0 ≤ Lib.indexByte l 45) = dashB l := by
  rw [Bool.eq_iff_iff, decide_eq_true_eq]
  unfold dashB
  rw [List.any_eq_true]
  constructor
  · intro h
    obtain ⟨o, ho⟩ : ∃ o : Nat, Lib.indexByte l 45 = o := ⟨(Lib.indexByte l 45).toNat, by omega⟩
    obtain ⟨h1, _⟩ := Lib.indexByte_some ho
    exact ⟨45, List.mem_of_getElem? h1, rfl⟩
  · rintro ⟨b, hb, e⟩
    have := of_decide_eq_true e; subst this
    rcases Int.lt_or_le (Lib.indexByte l 45) 0 with h | h
    · have : Lib.indexByte l 45 = -1 := by have := Lib.indexByte_ge l 45; omega
      obtain ⟨k, hk⟩ := List.getElem?_of_mem hb
      exact absurd hk (Lib.indexByte_none this k)
    · exact h
theorem idx_plain (p : Nat → Bool) (s : ByteArray) (hs : ∀ b ∈ s.data.toList, b.toNat < 128) : ∀ (f pos : Nat), s.size ≤ pos + f → (0 ≤ idxFuncFrom p true s f pos ↔ ∃ i, pos ≤ i ∧ ∃ b, s.data.toList[i]? = some b ∧ p b.toNat = true)
  | 0, pos, h => by
    have : ¬ (0 : Int) ≤ idxFuncFrom p true s 0 pos := by simp [idxFuncFrom]
    refine ⟨fun h' => absurd h' this, ?_⟩
    rintro ⟨i, h1, b, h2, _⟩
    have := (List.getElem?_eq_some_iff.1 h2).1
    have : i < s.size := this
    omega
  | f + 1, pos, h => by
    by_cases hp : pos < s.size
    · have ih := idx_plain p s hs f
      obtain ⟨b, hb1, hb2⟩ : ∃ b, s.data.toList[pos]? = some b ∧ s.get! pos = b := ⟨_, List.getElem?_eq_getElem hp, by show s.data[pos]! = _; rw [getElem!_pos s.data pos hp]; rfl⟩
      have hb3 := hs b (List.mem_of_getElem? hb1)
      unfold idxFuncFrom
      rw [if_pos hp, decode_at, hb2]
      have hd : ∀ n b1 b2 b3, decodeN n b.toNat b1 b2 b3 = (b.toNat, 1) := fun n b1 b2 b3 => by rw [decodeN, if_pos hb3]
      rw [hd]
      show (0 : Int) ≤ (if p b.toNat = true then (pos : Int) else idxFuncFrom p true s f (pos + 1)) ↔ _
      cases hpb : p b.toNat with
      | true => exact ⟨fun _ => ⟨pos, Nat.le_refl _, b, hb1, hpb⟩, fun _ => by simp⟩
      | false =>
        rw [if_neg (by simp), ih (pos + 1) (by omega)]
        constructor
        · rintro ⟨i, h3, h4⟩; exact ⟨i, by omega, h4⟩
        · rintro ⟨i, h3, b', h4, h5⟩
          rcases Nat.lt_or_ge pos i with h6 | h6
          · exact ⟨i, h6, b', h4, h5⟩
          · have : i = pos := by omega
            subst this
            rw [hb1] at h4; cases h4
            rw [hpb] at h5; cases h5
    · rw [idxFuncFrom_end _ _ _ _ _ hp]
      refine ⟨fun h' => by omega, ?_⟩
      rintro ⟨i, h1, b, h2, _⟩
      have := (List.getElem?_eq_some_iff.1 h2).1
      have : i < s.size := this
      omega
theorem right_plain {s : ByteArray} (h : rightS s = true) : ∀ b ∈ s.data.toList, b.toNat < 128 := by
  intro b hb
  unfold rightS rightL at h
  simp only [Bool.and_eq_true, List.all_eq_true] at h
  have := h.1.2 b hb
  unfold signB signC smallC capC at this
  simp only [Bool.or_eq_true, Bool.and_eq_true, decide_eq_true_eq] at this
  omega
theorem caps_index {s : ByteArray} (h : rightS s = true) : decide (0 ≤ idxFunc (fun r => capC (r : Int)) true s) = capsB s.data.toList := by
  rw [Bool.eq_iff_iff, decide_eq_true_eq]
  unfold capsB
  rw [List.any_eq_true]
  have := idx_plain (fun r => capC (r : Int)) s (right_plain h) s.size 0 (by omega)
  refine Iff.trans this ⟨?_, ?_⟩
  · rintro ⟨i, _, b, h1, h2⟩; exact ⟨b, List.mem_of_getElem? h1, h2⟩
  · rintro ⟨b, h1, h2⟩
    obtain ⟨i, hi⟩ := List.getElem?_of_mem h1
    exact ⟨i, Nat.zero_le _, b, hi, h2⟩
theorem f20c_ok (s : ByteArray) (h : rightS s = true) : FnOK Tryz.prog 141 [] [eStr s, .lit (.func (.func 142) #[] #[])] [] (eBool (capsB s.data.toList)) := by
  rw [← caps_index h]
  exact FnOK.of_calls (vs := [.string s, .func (.func 142) #[] #[]]) fun w ht => f141_calls 142 c142 (fun r => capC (r : Int)) s w ht fun W x ht _ => (f142_ok (x : Int)).below (vs := [.int .i32 (x : Int)]) W ht
theorem right_first {s : ByteArray} (h : rightS s = true) : ∃ b r, s.data.toList = b :: r := by
  unfold rightS rightL at h
  simp only [Bool.and_eq_true, decide_eq_true_eq] at h
  obtain ⟨b, r, e, _⟩ := first_get h.1.1.1
  exact ⟨b, r, e⟩
theorem f91_ok (s : ByteArray) : FnOK Tryz.prog 91 [] [eStr s] [] (eBool (customS s)) := by
  refine FnOK.startC (rvs := [.tmp 2]) G G_good Tryz.func91 rfl Tryz.ntmps91 rfl rfl ?_; with_reducible refine wD ?_
  refine CallK.lit [] (f139_ok s) c139 ⟨rfl, trivial⟩ rfl rfl ?_; with_reducible refine wK ?_
  unfold customS
  cases hr : rightS s with
  | false =>
    repeat' (first
    | ((with_reducible show IfK _ _ _ _); first | refine iK ?_ | (refine IfK.mk (fun _ => ?_) (fun _ => ?_) <;> with_reducible refine wK ?_))
    | ((with_reducible show (_ ∧ _) ∧ _ ∧ _); (refine eK ?_ ?_ <;> with_reducible repeat' (first | exact trivial | (show _ ∧ _; refine aK ?_ ?_)))))
    all_goals rfl
  | true =>
    obtain ⟨b, r, hb⟩ := right_first hr
    have hb0 : s.data.toList[0]? = some b := by rw [hb]; rfl
    have hlf : lowFirst s.data.toList = smallC (b.toNat : Int) := by rw [hb]; rfl
    have hda := dash_index s.data.toList
    have f25 := f143_ok s 45
    rw [hda] at f25
    refine IfK.tt ?_; with_reducible refine wK ?_
    refine IdxSK.mk 0 b rfl hb0 ?_; with_reducible refine wK ?_
    refine ConvK.int (by kernel_rfl) (by kernel_rfl) (u8_i32 _) ?_; with_reducible refine wK ?_
    refine CallK.lit [] (f140_ok _) c140 ⟨rfl, trivial⟩ rfl rfl ?_; with_reducible refine wK ?_
    repeat' (first
    | ((with_reducible show IfK _ _ _ _); first | refine iK ?_ | (refine IfK.mk (fun _ => ?_) (fun _ => ?_) <;> with_reducible refine wK ?_))
    | ((with_reducible show CallK _ _ 141 _ _ _ _); refine CallK.lit [] (f20c_ok s hr) c141 ⟨rfl, ⟨rfl, rfl⟩, trivial⟩ rfl rfl ?_; with_reducible refine wK ?_)
    | ((with_reducible show CallK _ _ 143 _ _ _ _); refine CallK.lit [] f25 c143 ⟨rfl, rfl, trivial⟩ rfl rfl ?_; with_reducible refine wK ?_)
    | ((with_reducible show CallK _ _ 145 _ _ _ _); refine CallK.new 211 [] f145_ok c145 trivial rfl rfl rfl (strs_outs resL) rfl ?_; with_reducible refine wK ?_)
    | ((with_reducible show CallK _ _ 144 _ _ _ _); refine CallK.lit [211] (f144_ok resL (by decide) s) c144 ⟨frz_strs rfl rfl rfl rfl, rfl, trivial⟩ rfl rfl ?_; with_reducible refine wK ?_)
    | ((with_reducible show (_ ∧ _) ∧ _ ∧ _); (refine eK ?_ ?_ <;> with_reducible repeat' (first | exact trivial | (show _ ∧ _; refine aK ?_ ?_)))))
    all_goals (rw [hlf]; clear hb hb0 hda f25 hlf; rw [show s.data.toList = s.1.1 from rfl]; simp_all)
theorem lowL_id (l : List UInt8) : lowL l = l ↔ capsB l = false := by
  unfold capsB
  induction l with
  | nil => simp [lowL]
  | cons c r ih =>
    have hc : lowB c = c ↔ capC (c.toNat : Int) = false := by
      unfold lowB
      cases h : capC (c.toNat : Int) with
      | false => simp
      | true =>
        simp only [if_true, Bool.true_eq_false, iff_false]
        intro e
        have : (c + 32).toNat = c.toNat := by rw [e]
        rw [UInt8.toNat_add] at this
        have h3 := UInt8.toNat_lt c
        have : (32 : UInt8).toNat = 32 := rfl
        omega
    simp only [lowL, List.map_cons, List.cons.injEq, List.any_cons, Bool.or_eq_false_iff]
    rw [hc]
    exact and_congr_right fun _ => ih
theorem lowS_id (s : ByteArray) : lowS s = s ↔ capsB s.data.toList = false := by
  rw [← lowL_id]
  constructor
  · intro h
    have : (lowS s).data.toList = s.data.toList := by rw [h]
    exact this
  · intro h
    unfold lowS
    rw [h]
theorem first_kind {s : ByteArray} {b : UInt8} {r : List UInt8} (hr : rightS s = true) (hb : s.data.toList = b :: r) (hc : capsB s.data.toList = false) : smallC (b.toNat : Int) = !decide (b = 95) := by
  unfold rightS rightL at hr
  rw [hb] at hr hc
  unfold capsB at hc
  simp only [List.any_cons, Bool.or_eq_false_iff] at hc
  simp only [Bool.and_eq_true, firstB, hc.1, Bool.or_false, Bool.or_eq_true, decide_eq_true_eq] at hr
  rcases hr.2 with h | h
  · rw [h]
    symm
    rw [Bool.not_eq_true', decide_eq_false_iff_not]
    rintro rfl
    revert h; decide
  · have : b = 95 := by
      have e : b.toNat = (95 : UInt8).toNat := by
        have : (95 : UInt8).toNat = 95 := rfl
        omega
      exact UInt8.toNat_inj.1 e
    subst this; decide
theorem is_n {c d : UInt8} : decide ((c.toNat : Int) = (d.toNat : Int)) = decide (c = d) := by
  rw [decide_eq_decide]
  exact ⟨fun h => UInt8.toNat_inj.1 (by omega), fun h => by rw [h]⟩
theorem f28r_ok (s : ByteArray) : FnOK Tryz.prog 102 [] [eStr s, eStr ⟨resB.toArray⟩] [] (eBool (hasW resL s)) := by
  rw [← res_words]; exact f102_ok s ⟨resB.toArray⟩ (by decide)
theorem f28k_ok (s : ByteArray) : FnOK Tryz.prog 102 [] [eStr s, eStr ⟨knowB.toArray⟩] [] (eBool (hasW knowL s)) := by
  rw [← know_words]; exact f102_ok s ⟨knowB.toArray⟩ (by decide)
theorem f57_ok (s : ByteArray) (hs : s.size ≤ 100000) : FnOK Tryz.prog 57 [] [eStr s] [] (eBool (customS s)) := by
  have hsz : s.size = s.data.toList.length := size_len s
  refine FnOK.startC (rvs := [.tmp 2]) G G_good Tryz.func57 rfl Tryz.ntmps57 rfl rfl ?_; with_reducible refine wD ?_
  refine CallK.lit [] (f100_ok s) c100 ⟨rfl, trivial⟩ rfl rfl ?_; with_reducible refine wK ?_
  cases hr : rightS s with
  | false =>
    have e : customS s = false := by unfold customS; rw [hr]; rfl
    rw [e]
    repeat' (first
    | ((with_reducible show IfK _ _ _ _); first | refine iK ?_ | (refine IfK.mk (fun _ => ?_) (fun _ => ?_) <;> with_reducible refine wK ?_))
    | ((with_reducible show (_ ∧ _) ∧ _ ∧ _); (refine eK ?_ ?_ <;> with_reducible repeat' (first | exact trivial | (show _ ∧ _; refine aK ?_ ?_)))))
  | true =>
    obtain ⟨b, r, hb⟩ := right_first hr
    have hb0 : s.data.toList[0]? = some b := by rw [hb]; rfl
    refine IfK.ff ?_; with_reducible refine wK ?_
    refine CallK.lit [] (f101_ok s hs) c101 ⟨rfl, trivial⟩ rfl rfl ?_; with_reducible refine wK ?_
    have hlf : lowFirst s.data.toList = smallC (b.toNat : Int) := by rw [hb]; rfl
    cases hc : capsB s.data.toList with
    | true =>
      have e : customS s = false := by unfold customS; rw [hc]; simp
      have hne : ¬ s = lowS s := fun h => by rw [(lowS_id s).1 h.symm] at hc; cases hc
      rw [e]
      refine IfK.yes (by simp [hne]) ?_; with_reducible refine wK ?_
      repeat' (first
    | ((with_reducible show IfK _ _ _ _); first | refine iK ?_ | (refine IfK.mk (fun _ => ?_) (fun _ => ?_) <;> with_reducible refine wK ?_))
    | ((with_reducible show (_ ∧ _) ∧ _ ∧ _); (refine eK ?_ ?_ <;> with_reducible repeat' (first | exact trivial | (show _ ∧ _; refine aK ?_ ?_)))))
    | false =>
      have hfk := first_kind hr hb hc
      have heq : s = lowS s := ((lowS_id s).2 hc).symm
      refine IfK.no (by simp [← heq]) ?_; with_reducible refine wK ?_
      refine IdxSK.mk 0 b rfl hb0 ?_; with_reducible refine wK ?_
      rw [show decide ((b.toNat : Int) = 95) = decide (b = 95) from is_n (d := 95)]
      cases h9 : decide (b = 95) with
      | true =>
        have e : customS s = false := by unfold customS; rw [hlf, hfk, h9]; simp
        rw [e]
        repeat' (first
    | ((with_reducible show IfK _ _ _ _); first | refine iK ?_ | (refine IfK.mk (fun _ => ?_) (fun _ => ?_) <;> with_reducible refine wK ?_))
    | ((with_reducible show (_ ∧ _) ∧ _ ∧ _); (refine eK ?_ ?_ <;> with_reducible repeat' (first | exact trivial | (show _ ∧ _; refine aK ?_ ?_)))))
      | false =>
        refine IfK.ff ?_; with_reducible refine wK ?_
        refine CallK.lit [] (f28r_ok s) c102 ⟨rfl, rfl, trivial⟩ rfl rfl ?_; with_reducible refine wK ?_
        cases hw : hasW resL s with
        | true =>
          have e : customS s = false := by unfold customS; rw [hw]; simp
          rw [e]
          repeat' (first
    | ((with_reducible show IfK _ _ _ _); first | refine iK ?_ | (refine IfK.mk (fun _ => ?_) (fun _ => ?_) <;> with_reducible refine wK ?_))
    | ((with_reducible show (_ ∧ _) ∧ _ ∧ _); (refine eK ?_ ?_ <;> with_reducible repeat' (first | exact trivial | (show _ ∧ _; refine aK ?_ ?_)))))
        | false =>
          have e : customS s = dashB s.data.toList := by unfold customS; rw [hw, hr, hlf, hfk, h9, hc]; simp
          rw [e]
          obtain ⟨l, hl⟩ : ∃ l, s.data.toList = l := ⟨_, rfl⟩
          rw [hl] at hsz ⊢
          refine IfK.ff ?_; with_reducible refine wK ?_
          refine LoopK.use G G_good (fun (k : Nat) => [(0, eStr s), (3, eInt k)]) (fun _ => []) (fun k => k ≤ l.length ∧ ∀ j x, j < k → l[j]? = some x → decide (x = 45) = false) (fun k => l.length - k) 0 ⟨Nat.zero_le _, fun j x h => by omega⟩
            ⟨⟨rfl, rfl⟩, ⟨rfl, rfl, trivial⟩, trivial⟩ ?_
          rintro k ⟨hk, hno⟩
          with_reducible refine wK ?_
          refine IfK.mk (fun g1 => ?_) (fun g1 => ?_) <;> (try simp only [castN] at g1) <;> with_reducible refine wK ?_
          · simp only [decide_eq_true_eq] at g1
            have hk' : k < l.length := by omega
            obtain ⟨c, hcc⟩ : ∃ c, l[k]? = some c := ⟨_, List.getElem?_eq_getElem hk'⟩
            refine IdxSK.mk k c rfl (by rw [hl]; exact hcc) ?_; with_reducible refine wK ?_
            rw [show decide ((c.toNat : Int) = 45) = decide (c = 45) from is_n (d := 45)]
            cases h4 : decide (c = 45) with
            | true =>
              refine IfK.tt ?_; with_reducible refine wK ?_
              (refine eK ?_ ?_ <;> with_reducible repeat' (first | exact trivial | (show _ ∧ _; refine aK ?_ ?_)))
              unfold dashB
              rw [List.any_eq_true]
              exact ⟨c, List.mem_of_getElem? hcc, h4⟩
            | false =>
              refine IfK.ff ?_; with_reducible refine wK ?_
              refine nK ?_; with_reducible refine wK ?_
              refine NextK.mk (k + 1) ⟨by omega, fun j x hj hx => ?_⟩ (by omega) ⟨⟨rfl, rfl⟩, ⟨rfl, by show ((k + 1 : Nat) : Int) = (k : Int) + 1; omega, trivial⟩, trivial⟩
              rcases Nat.lt_or_ge j k with h3 | h3
              · exact hno j x h3 hx
              · have : j = k := by omega
                subst this
                rw [hcc] at hx; cases hx; exact h4
          · (refine eK ?_ ?_ <;> with_reducible repeat' (first | exact trivial | (show _ ∧ _; refine aK ?_ ?_)))
            unfold dashB
            rw [List.any_eq_false]
            intro x hx
            obtain ⟨j, hj⟩ := List.getElem?_of_mem hx
            have := hno j x (by have := (List.getElem?_eq_some_iff.1 hj).1; simp only [decide_eq_false_iff_not] at g1; omega) hj
            simp [this]
theorem f60_ok (s : ByteArray) : FnOK Tryz.prog 60 [] [eStr s] [] (eBool (hasW knowL s)) := by
  have hne : s = noS' → hasW knowL s = false := by
    rintro rfl; decide +kernel
  refine FnOK.startC (rvs := [.tmp 2]) G G_good Tryz.func60 rfl Tryz.ntmps60 rfl rfl ?_; with_reducible refine wD ?_
  by_cases h : s = noS'
  · have e := hne h
    refine IfK.no (by rw [show (!decide (s = ({ data := { toList := [] } } : ByteArray))) = !decide (s = noS') from rfl, decide_eq_true h]; rfl) ?_; with_reducible refine wK ?_
    (refine eK ?_ ?_ <;> with_reducible repeat' (first | exact trivial | (show _ ∧ _; refine aK ?_ ?_)))
    rw [e]
  · refine IfK.yes (by rw [show (!decide (s = ({ data := { toList := [] } } : ByteArray))) = !decide (s = noS') from rfl, decide_eq_false h]; rfl) ?_; with_reducible refine wK ?_
    refine CallK.lit [] (f28k_ok s) c102 ⟨rfl, rfl, trivial⟩ rfl rfl ?_; with_reducible refine wK ?_
    (refine eK ?_ ?_ <;> with_reducible repeat' (first | exact trivial | (show _ ∧ _; refine aK ?_ ?_)))
end Go.Proofs.Heir
end
section
set_option linter.unusedSimpArgs false
set_option linter.unusedVariables false
namespace Go.Proofs.Heir
open Go.Am Go.RowKit Go.Lib
theorem know_facts {s : ByteArray} (h : hasW knowL s = true) : rightS s = true ∧ dashB s.data.toList = false ∧ capsB s.data.toList = false := by
  have hs := hasW_iff.1 h
  have key : knowL.all (fun x => rightS x && (!dashB x.data.toList && !capsB x.data.toList)) = true := by decide +kernel
  have := List.all_eq_true.1 key s hs
  simp only [Bool.and_eq_true, Bool.not_eq_true'] at this
  exact this
theorem know_uncustom {s : ByteArray} (h : hasW knowL s = true) : customS s = false := by
  unfold customS; rw [(know_facts h).2.1]; simp
end Go.Proofs.Heir
end
section
set_option linter.unusedSimpArgs false
set_option linter.unusedVariables false
namespace Go.Proofs.Heir
open Go Go.Am Go.RowKit Go.Lib
def oInt (n : Int) : AV := eInt n
def vInt (n : Int) : Value := .int .i64 n
@[reducible] def eInts (l : List Int) : AV := .sl 1 (l.map oInt)
theorem int_get {l : List Int} {k : Nat} {x : Int} (h : l[k]? = some x) : (l.map oInt)[k]? = some (eInt x) := by rw [List.getElem?_map, h]; rfl
end Go.Proofs.Heir
end
section
set_option linter.unusedSimpArgs false
set_option linter.unusedVariables false
namespace Go.Proofs.Heir
open Go Go.Am Go.RowKit Go.Lib
set_option maxRecDepth 100000
set_option maxHeartbeats 8000000
structure NodeM where
  kind : Int
  name : ByteArray
  is : ByteArray
  data : ByteArray
  attrs : List AttrM
  parent : Int
  kids : List Int
  host : Int
  under : Int
  doc : Int
structure ForM where
  nodes : List NodeM
  most : Int
def noNode : NodeM := ⟨0, ⟨#[]⟩, ⟨#[]⟩, ⟨#[]⟩, [], 0, [], 0, 0, 0⟩
def nd (l : List NodeM) (n : Int) : NodeM := (l[n.toNat]?).getD noNode
def thereN (l : List NodeM) (n : Int) : Bool := decide (0 ≤ n) && decide (n < (l.length : Int))
def isN (l : List NodeM) (n k : Int) : Bool := thereN l n && decide ((nd l n).kind = k)
def holdK (k : Int) : Bool := decide (k = 0) || decide (k = 1) || decide (k = 3) || decide (k = 4)
def hasI (l : List Int) (n : Int) : Bool := decide (n ∈ l)
def upN (x : NodeM) : Int := if x.parent = -1 then x.host else x.parent
def ownedN (l : List NodeM) (n : Int) (x : NodeM) : Bool := isN l x.doc 0 && (decide (x.kind ≠ 0) || decide (x.doc = n))
def hungN (l : List NodeM) (n : Int) (x : NodeM) : Bool := decide (x.parent = -1) || ((decide (x.kind = 1) || decide (x.kind = 2)) && thereN l x.parent && holdK (nd l x.parent).kind && hasI (nd l x.parent).kids n)
def kidOK (l : List NodeM) (n : Int) (x : NodeM) (pre : List Int) (c : Int) : Bool :=
  thereN l c && !hasI pre c && decide ((nd l c).parent = n) && decide ((nd l c).doc = x.doc) && (decide ((nd l c).kind = 1) || (decide ((nd l c).kind = 2) && decide (x.kind ≠ 0)))
def kidsOK (l : List NodeM) (n : Int) (x : NodeM) : List Int → List Int → Bool
  | _, [] => true
  | pre, c :: r => kidOK l n x pre c && kidsOK l n x (pre ++ [c]) r
def elemsN (l : List NodeM) (cs : List Int) : Nat := cs.countP (fun c => decide ((nd l c).kind = 1))
def bearsN (l : List NodeM) (n : Int) (x : NodeM) : Bool :=
  kidsOK l n x [] x.kids && ((holdK x.kind || decide (x.kids = [])) && (decide (x.kind ≠ 0) || decide (elemsN l x.kids ≤ 1)))
def shadedN (l : List NodeM) (n : Int) (x : NodeM) : Bool :=
  (if x.kind = 4 then isN l x.host 1 && decide ((nd l x.host).under = n) && decide ((nd l x.host).doc = x.doc) else decide (x.host = -1)) &&
  (decide (x.under = -1) || (decide (x.kind = 1) && isN l x.under 4 && decide ((nd l x.under).host = n)))
def endsN (l : List NodeM) : Nat → Int → Bool
  | 0, _ => false
  | m + 1, n => if upN (nd l n) = -1 then true else endsN l m (upN (nd l n))
def namedN (x : NodeM) : Bool :=
  if x.kind = 1 then rightS x.name && decide (lowS x.name = x.name) && (decide (x.is = ⟨#[]⟩) || customS x.is) && decide (x.data = ⟨#[]⟩) && rightA x.attrs
  else if x.kind = 2 then decide (x.data.size ≤ 200) && decide (x.name = ⟨#[]⟩) && decide (x.is = ⟨#[]⟩) && decide (x.attrs = [])
  else if x.kind = 0 ∨ x.kind = 3 ∨ x.kind = 4 then decide (x.name = ⟨#[]⟩) && decide (x.is = ⟨#[]⟩) && decide (x.data = ⟨#[]⟩) && decide (x.attrs = [])
  else false
def nodeOK (l : List NodeM) (n : Int) (x : NodeM) : Bool := namedN x && (ownedN l n x && (hungN l n x && (bearsN l n x && shadedN l n x)))
def headOK (f : ForM) : Bool := decide (1 ≤ f.most) && decide (f.most ≤ 400) && decide (1 ≤ f.nodes.length) && decide ((f.nodes.length : Int) ≤ f.most) && decide ((nd f.nodes 0).kind = 0)
def allIx {α : Type} (p : Nat → α → Bool) : Nat → List α → Bool
  | _, [] => true
  | i, x :: r => p i x && allIx p (i + 1) r
def rightF (f : ForM) : Bool := headOK f && (allIx (fun k x => nodeOK f.nodes k x) 0 f.nodes && allIx (fun k _ => endsN f.nodes f.nodes.length k) 0 f.nodes)
def shortF (f : ForM) : Bool := decide (f.nodes.length ≤ 60) && f.nodes.all (fun x => decide (x.kids.length ≤ 60) && decide (x.attrs.length ≤ 60) && decide (x.name.size ≤ 300))
structure SmallN (l : List NodeM) : Prop where
  len : l.length ≤ 60
  kids : ∀ x ∈ l, x.kids.length ≤ 60
  attrs : ∀ x ∈ l, x.attrs.length ≤ 60
  name : ∀ x ∈ l, x.name.size ≤ 300
theorem shortF_iff {f : ForM} : shortF f = true ↔ SmallN f.nodes := by
  unfold shortF
  simp only [Bool.and_eq_true, decide_eq_true_eq, List.all_eq_true]
  constructor
  · rintro ⟨h1, h2⟩
    exact ⟨h1, fun x hx => (h2 x hx).1.1, fun x hx => (h2 x hx).1.2, fun x hx => (h2 x hx).2⟩
  · rintro ⟨h1, h2, h3, h4⟩
    exact ⟨h1, fun x hx => ⟨⟨h2 x hx, h3 x hx⟩, h4 x hx⟩⟩
theorem nd_get {l : List NodeM} {k : Nat} {x : NodeM} (h : l[k]? = some x) : nd l (k : Int) = x := by unfold nd; rw [Int.toNat_natCast, h]; rfl
theorem there_get {l : List NodeM} {k : Nat} {x : NodeM} (h : l[k]? = some x) : thereN l (k : Int) = true := by
  unfold thereN
  have := (List.getElem?_eq_some_iff.1 h).1
  simp; omega
theorem there_iff {l : List NodeM} {n : Int} : thereN l n = true ↔ ∃ (k : Nat) (x : NodeM), n = (k : Int) ∧ l[k]? = some x ∧ nd l n = x := by
  constructor
  · intro h
    unfold thereN at h
    simp only [Bool.and_eq_true, decide_eq_true_eq] at h
    have hk : n.toNat < l.length := by omega
    have hn : n = (n.toNat : Int) := by omega
    refine ⟨n.toNat, l[n.toNat], hn, List.getElem?_eq_getElem hk, ?_⟩
    unfold nd; rw [List.getElem?_eq_getElem hk]; rfl
  · rintro ⟨k, x, rfl, h, _⟩
    exact there_get h
theorem allIx_iff {α : Type} {p : Nat → α → Bool} : ∀ {i : Nat} {l : List α}, allIx p i l = true ↔ ∀ k x, l[k]? = some x → p (i + k) x = true
  | i, [] => by simp [allIx]
  | i, a :: r => by
    simp only [allIx, Bool.and_eq_true, allIx_iff (i := i + 1) (l := r)]
    constructor
    · rintro ⟨h1, h2⟩ k x hx
      cases k with
      | zero => simp at hx; subst hx; exact h1
      | succ k => have := h2 k x (by simpa using hx); rw [show i + (k + 1) = i + 1 + k from by omega]; exact this
    · intro h
      refine ⟨h 0 a rfl, fun k x hx => ?_⟩
      have := h (k + 1) x (by simpa using hx)
      rw [show i + 1 + k = i + (k + 1) from by omega]; exact this
@[reducible] def eNode (x : NodeM) : AV := .agg [eInt x.kind, eStr x.name, eStr x.is, eStr x.data, eAttrs x.attrs, eInt x.parent, eInts x.kids, eInt x.host, eInt x.under, eInt x.doc]
def oNode (x : NodeM) : AV := eNode x
@[reducible] def eNodes (l : List NodeM) : AV := .sl 10 (l.map oNode)
@[reducible] def eFor (f : ForM) : AV := .agg [eNodes f.nodes, eInt f.most]
theorem node_get {l : List NodeM} {k : Nat} {x : NodeM} (h : l[k]? = some x) : (l.map oNode)[k]? = some (eNode x) := by rw [List.getElem?_map, h]; rfl
end Go.Proofs.Heir
end
