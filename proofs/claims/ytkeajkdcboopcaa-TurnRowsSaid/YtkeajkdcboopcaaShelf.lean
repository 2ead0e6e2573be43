-- Laid by the shelf's tools (lay-shelf.mjs, lay-plain.mjs), cut to what is used.
import Derived.Shelf.Small.Bits
import Derived.Shelf.Strconv.Itoa0
import Derived.Ground.SlgnProg
import Derived.Shelf.SlicesE.Compact
import Derived.Shelf.SlicesE.Clone
import Derived.Ground.SlsfProg
import Derived.Shelf.SlSortCmp.Insertion
import Derived.Shelf.SlSortCmp.SiftDown1
import Derived.Shelf.SlSortCmp.HeapSort1
import Derived.Shelf.SlSortCmp.Insertion1
import Derived.Shelf.SlSortCmp.Median1
import Derived.Shelf.SlSortCmp.Pivot1
import Derived.Shelf.SlSortCmp.ReverseRange1
import Derived.Shelf.SlSortCmp.PartialInsertion1
import Derived.Shelf.SlSortCmp.PartitionEqual1
import Derived.Shelf.SlSortCmp.Partition1
import Derived.Shelf.SlSortCmp.Pdq1
import Derived.Shelf.SlSortCmp.Whole1
import Derived.Shelf.SlSortCmp.NoneTotal
import Derived.Test.YtkeajkdcboopcaaProg
namespace Go.Proofs
open Go.Shelf
def Try.laysSlE43_f17_ren : Go.Shelf.Ren := ⟨fun | 43 => 17 | n => n, fun | 22 => 22 | 23 => 23 | 3 => 3 | 4 => 4 | 0 => 0 | n => n, fun | n => n⟩
theorem Try.laysSlE43_f17 : Go.Proofs.SlLaysE.n43 Try.prog Try.laysSlE43_f17_ren := {
  mixed := by kernel_rfl
  f43 := ⟨Try.f17.name, by decide, Try.func17.trans (congrArg some (by kernel_rfl))⟩
  t0 := Try.underlying0
  a0 := Try.isAgg0
  z0 := Try.sizeOf0
  v0 := Try.zeroValue0
  t3 := Try.underlying3
  a3 := Try.isAgg3
  z3 := Try.sizeOf3
  v3 := Try.zeroValue3
  t4 := Try.underlying4
  a4 := Try.isAgg4
  z4 := Try.sizeOf4
  v4 := Try.zeroValue4
  t22 := Try.underlying22
  a22 := Try.isAgg22
  z22 := Try.sizeOf22
  v22 := Try.zeroValue22
  a23 := Try.isAgg23
  z23 := Try.sizeOf23 }
def Try.laysSlF6_f13_ren : Go.Shelf.Ren := ⟨fun | 6 => 13 | 15 => 19 | 14 => 18 | 28 => 29 | 29 => 30 | 20 => 21 | 21 => 22 | 22 => 23 | 23 => 24 | 24 => 25 | 25 => 26 | 26 => 27 | 27 => 28 | 46 => 31 | 47 => 32 | 48 => 33 | 49 => 34 | 50 => 35 | 57 => 36 | n => n, fun | 22 => 22 | 24 => 23 | 25 => 34 | 3 => 3 | 39 => 28 | 0 => 0 | 53 => 50 | 55 => 52 | 4 => 4 | 46 => 43 | 45 => 42 | 50 => 47 | 5 => 5 | 9 => 9 | 66 => 53 | 70 => 57 | 76 => 59 | 77 => 60 | n => n, fun | n => n⟩
theorem Try.laysSlF6_f13 : Go.Proofs.SlLaysF.n6 Try.prog Try.laysSlF6_f13_ren := {
  mixed := by kernel_rfl
  f6 := ⟨Try.f13.name, by decide, Try.func13.trans (congrArg some (by kernel_rfl))⟩
  f14 := ⟨Try.f18.name, by decide, Try.func18.trans (congrArg some (by kernel_rfl))⟩
  f15 := Try.func19.trans (congrArg some (by kernel_rfl))
  f20 := ⟨Try.f21.name, by decide, Try.func21.trans (congrArg some (by kernel_rfl))⟩
  f21 := ⟨Try.f22.name, by decide, Try.func22.trans (congrArg some (by kernel_rfl))⟩
  f22 := ⟨Try.f23.name, by decide, Try.func23.trans (congrArg some (by kernel_rfl))⟩
  f23 := ⟨Try.f24.name, by decide, Try.func24.trans (congrArg some (by kernel_rfl))⟩
  f24 := ⟨Try.f25.name, by decide, Try.func25.trans (congrArg some (by kernel_rfl))⟩
  f25 := ⟨Try.f26.name, by decide, Try.func26.trans (congrArg some (by kernel_rfl))⟩
  f26 := ⟨Try.f27.name, by decide, Try.func27.trans (congrArg some (by kernel_rfl))⟩
  f27 := ⟨Try.f28.name, by decide, Try.func28.trans (congrArg some (by kernel_rfl))⟩
  f28 := Try.func29.trans (congrArg some (by kernel_rfl))
  f29 := Try.func30.trans (congrArg some (by kernel_rfl))
  f46 := ⟨Try.f31.name, by decide, Try.func31.trans (congrArg some (by kernel_rfl))⟩
  f47 := Try.func32.trans (congrArg some (by kernel_rfl))
  f48 := Try.func33.trans (congrArg some (by kernel_rfl))
  f49 := ⟨Try.f34.name, by decide, Try.func34.trans (congrArg some (by kernel_rfl))⟩
  f50 := ⟨Try.f35.name, by decide, Try.func35.trans (congrArg some (by kernel_rfl))⟩
  f57 := ⟨Try.f36.name, by decide, Try.func36.trans (congrArg some (by kernel_rfl))⟩
  t0 := Try.underlying0
  a0 := Try.isAgg0
  z0 := Try.sizeOf0
  v0 := Try.zeroValue0
  t3 := Try.underlying3
  a3 := Try.isAgg3
  z3 := Try.sizeOf3
  v3 := Try.zeroValue3
  t4 := Try.underlying4
  a4 := Try.isAgg4
  z4 := Try.sizeOf4
  v4 := Try.zeroValue4
  t5 := Try.underlying5
  a5 := Try.isAgg5
  z5 := Try.sizeOf5
  v5 := Try.zeroValue5
  t9 := Try.underlying9
  a9 := Try.isAgg9
  z9 := Try.sizeOf9
  v9 := Try.zeroValue9
  t22 := Try.underlying22
  a22 := Try.isAgg22
  z22 := Try.sizeOf22
  v22 := Try.zeroValue22
  a24 := Try.isAgg23
  z24 := Try.sizeOf23
  t25 := Try.underlying34
  a25 := Try.isAgg34
  z25 := Try.sizeOf34
  v25 := Try.zeroValue34
  t39 := Try.underlying28
  a39 := Try.isAgg28
  z39 := Try.sizeOf28
  v39 := Try.zeroValue28
  t45 := Try.underlying42
  a45 := Try.isAgg42
  z45 := Try.sizeOf42
  v45 := Try.zeroValue42
  t46 := Try.underlying43
  a46 := Try.isAgg43
  z46 := Try.sizeOf43
  v46 := Try.zeroValue43
  t50 := Try.underlying47
  a50 := Try.isAgg47
  z50 := Try.sizeOf47
  v50 := Try.zeroValue47
  t53 := Try.underlying50
  a53 := Try.isAgg50
  z53 := Try.sizeOf50
  v53 := Try.zeroValue50
  t55 := Try.underlying52
  a55 := Try.isAgg52
  z55 := Try.sizeOf52
  v55 := Try.zeroValue52
  t66 := Try.underlying53
  a66 := Try.isAgg53
  z66 := Try.sizeOf53
  v66 := Try.zeroValue53
  t70 := Try.underlying57
  a70 := Try.isAgg57
  z70 := Try.sizeOf57
  v70 := Try.zeroValue57
  t76 := Try.underlying59
  a76 := Try.isAgg59
  z76 := Try.sizeOf59
  v76 := Try.zeroValue59
  t77 := Try.underlying60
  a77 := Try.isAgg60
  z77 := Try.sizeOf60
  v77 := Try.zeroValue60 }
def Try.laysSlF06_f13_ren : Go.Shelf.Ren := ⟨fun | 6 => 13 | 15 => 19 | 14 => 18 | 28 => 29 | 29 => 30 | 20 => 21 | 21 => 22 | 22 => 23 | 23 => 24 | 24 => 25 | 25 => 26 | 26 => 27 | 27 => 28 | 46 => 31 | 47 => 32 | 48 => 33 | 49 => 34 | 50 => 35 | 57 => 36 | n => n, fun | 22 => 22 | 24 => 23 | 25 => 34 | 3 => 3 | 39 => 28 | 0 => 0 | 53 => 50 | 55 => 52 | 4 => 4 | 46 => 43 | 45 => 42 | 50 => 47 | 5 => 5 | 9 => 9 | 66 => 53 | 70 => 57 | 76 => 59 | 77 => 60 | n => n, fun | n => n⟩
theorem Try.laysSlF06_f13 : Go.Proofs.SlLaysF0.n6 Try.prog Try.laysSlF06_f13_ren := {
  mixed := by kernel_rfl
  f6 := ⟨Try.f13.name, by decide, Try.func13.trans (congrArg some (by kernel_rfl))⟩
  f14 := ⟨Try.f18.name, by decide, Try.func18.trans (congrArg some (by kernel_rfl))⟩
  f15 := Try.func19.trans (congrArg some (by kernel_rfl))
  f20 := ⟨Try.f21.name, by decide, Try.func21.trans (congrArg some (by kernel_rfl))⟩
  f21 := ⟨Try.f22.name, by decide, Try.func22.trans (congrArg some (by kernel_rfl))⟩
  f22 := ⟨Try.f23.name, by decide, Try.func23.trans (congrArg some (by kernel_rfl))⟩
  f23 := ⟨Try.f24.name, by decide, Try.func24.trans (congrArg some (by kernel_rfl))⟩
  f24 := ⟨Try.f25.name, by decide, Try.func25.trans (congrArg some (by kernel_rfl))⟩
  f25 := ⟨Try.f26.name, by decide, Try.func26.trans (congrArg some (by kernel_rfl))⟩
  f26 := ⟨Try.f27.name, by decide, Try.func27.trans (congrArg some (by kernel_rfl))⟩
  f27 := ⟨Try.f28.name, by decide, Try.func28.trans (congrArg some (by kernel_rfl))⟩
  f28 := Try.func29.trans (congrArg some (by kernel_rfl))
  f29 := Try.func30.trans (congrArg some (by kernel_rfl))
  f46 := ⟨Try.f31.name, by decide, Try.func31.trans (congrArg some (by kernel_rfl))⟩
  f47 := Try.func32.trans (congrArg some (by kernel_rfl))
  f48 := Try.func33.trans (congrArg some (by kernel_rfl))
  f49 := ⟨Try.f34.name, by decide, Try.func34.trans (congrArg some (by kernel_rfl))⟩
  f50 := ⟨Try.f35.name, by decide, Try.func35.trans (congrArg some (by kernel_rfl))⟩
  f57 := ⟨Try.f36.name, by decide, Try.func36.trans (congrArg some (by kernel_rfl))⟩
  t0 := Try.underlying0
  a0 := Try.isAgg0
  z0 := Try.sizeOf0
  v0 := Try.zeroValue0
  t3 := Try.underlying3
  a3 := Try.isAgg3
  z3 := Try.sizeOf3
  v3 := Try.zeroValue3
  t4 := Try.underlying4
  a4 := Try.isAgg4
  z4 := Try.sizeOf4
  v4 := Try.zeroValue4
  t5 := Try.underlying5
  a5 := Try.isAgg5
  z5 := Try.sizeOf5
  v5 := Try.zeroValue5
  t9 := Try.underlying9
  a9 := Try.isAgg9
  z9 := Try.sizeOf9
  v9 := Try.zeroValue9
  t22 := Try.underlying22
  a22 := Try.isAgg22
  z22 := Try.sizeOf22
  v22 := Try.zeroValue22
  t25 := Try.underlying34
  a25 := Try.isAgg34
  z25 := Try.sizeOf34
  v25 := Try.zeroValue34
  t39 := Try.underlying28
  a39 := Try.isAgg28
  z39 := Try.sizeOf28
  v39 := Try.zeroValue28
  t45 := Try.underlying42
  a45 := Try.isAgg42
  z45 := Try.sizeOf42
  v45 := Try.zeroValue42
  t46 := Try.underlying43
  a46 := Try.isAgg43
  z46 := Try.sizeOf43
  v46 := Try.zeroValue43
  t50 := Try.underlying47
  a50 := Try.isAgg47
  z50 := Try.sizeOf47
  v50 := Try.zeroValue47
  t53 := Try.underlying50
  a53 := Try.isAgg50
  z53 := Try.sizeOf50
  v53 := Try.zeroValue50
  t55 := Try.underlying52
  a55 := Try.isAgg52
  z55 := Try.sizeOf52
  v55 := Try.zeroValue52
  t66 := Try.underlying53
  a66 := Try.isAgg53
  z66 := Try.sizeOf53
  v66 := Try.zeroValue53
  t70 := Try.underlying57
  a70 := Try.isAgg57
  z70 := Try.sizeOf57
  v70 := Try.zeroValue57
  t76 := Try.underlying59
  a76 := Try.isAgg59
  z76 := Try.sizeOf59
  v76 := Try.zeroValue59
  t77 := Try.underlying60
  a77 := Try.isAgg60
  z77 := Try.sizeOf60
  v77 := Try.zeroValue60 }
open Go.RowKit Go.Lib Go.Sort in
theorem Try.slices_Compact {α : Type} [Inhabited α] [DecidableEq α] (enc : α → Value) (hO : OneCell enc) (heq : EqlAt Try.prog 23 enc (fun x y => decide (x = y))) (hne : NeqAt Try.prog 23 enc (fun x y => decide (x = y))) (zr : α) (v23 : ∀ w, (zeroValue 23).run Try.prog w = .ok (enc zr) w) (blk off cap : Nat) (d : Array α) (w : World) (hH : Holds enc w blk off d) (hsz : d.size ≤ 9223372036854775807) (hcap : d.size ≤ cap) :
    Calls Try.prog 17 #[.slice (some ⟨blk, off, none⟩) d.size cap] w fun e w' => e = .returned (.slice (some ⟨blk, off, none⟩) (compactUpTo d d.size).length cap) ∧ ∃ q, w' = putRow enc (Sort.ahead w q) blk off (compactUpTo d d.size ++ List.replicate (d.size - (compactUpTo d d.size).length) zr).toArray := AnyE.slices_Compact Try.laysSlE43_f17 enc hO heq hne zr v23 blk off cap d w hH hsz hcap
open Go.RowKit Go.Lib Go.Sort in
theorem Try.slices_SortFunc_none {α : Type} [Inhabited α] (p : Option Addr) (cap : Nat) (fv : Value) (w : World) :
    Calls Try.prog 13 #[.slice p 0 cap, fv] w fun e w' => e = .returned (.tuple #[]) ∧ w' = w := AnyF.slices_SortFunc_none Try.laysSlF06_f13 p cap fv w
open Go.RowKit Go.Lib Go.Sort in
theorem Try.slices_SortFunc_total {α : Type} [Inhabited α] (enc : α → Value) (h1 : OneCell enc) (cf : α → α → Int) (hO : SWO (ltOf cf)) (g : Nat) (cb : Array Value) (blk off cap : Nat) (d : Array α) (w : World) (eg : ∀ args w, (callFunc g args).run Try.prog w = .ok (.enter g args) w) (hcmp : CmpLays1 Try.prog g cb enc cf blk off d.size w) (hH : Holds enc w blk off d) (hblk : blk < w.heap.size) (hsz : d.size < 4611686018427387904) (hT : ∀ x y, (ltOf cf) x y = false → (ltOf cf) y x = false → x = y) :
    Calls Try.prog 13 #[.slice (some ⟨blk, off, none⟩) d.size cap, .func (.func g) #[] cb] w fun e w' =>
      e = .returned (.tuple #[]) ∧ ∃ n os, w' = sortWorld enc w blk off n (d.toList.mergeSort fun x y => !(ltOf cf) y x).toArray os := Any.slices_SortFunc_total Try.laysSlF6_f13 enc h1 cf hO g cb blk off cap d w eg hcmp hH hblk hsz hT
end Go.Proofs
