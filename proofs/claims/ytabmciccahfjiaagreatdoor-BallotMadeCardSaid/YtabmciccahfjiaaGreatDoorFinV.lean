/- A world that lays the tables of Go's library: the rows' witness. -/
import Derived.Test.YtabmciccahfjiaaGreatDoorFinOne
set_option linter.unusedSimpArgs false
set_option linter.unusedVariables false
namespace Go.Proofs.Am
open Go Go.RowKit Go.Lib
open Go.Proofs
open Go.Proofs.YtabmciccahfjiaaGreatDoor

def gdata (k : IntKind) : DataW Unit → Array Value
  | .agg ds => (ds.map fun | .lit (.int _ n) => Value.int k n | _ => Go.undef).toArray
  | _ => #[]

noncomputable def laidWorld (os : Os) : World :=
  let N := (World.settled Tryz.prog os).heap.size
  let T := Lib.goPrintTabs
  let w0 := World.holding Tryz.prog os ⟨#[
    .cells (intCellsOf .u16 T.p16) 221, .cells (intCellsOf .u16 T.n16) 221, .cells (intCellsOf .u32 T.p32) 139, .cells (intCellsOf .u16 T.n32) 221, .cells (intCellsOf .u16 Pinned.isGraphicZ) 221], #[], []⟩
  let put (h : Array Obj) (g : Nat) (cs : Array Value) : Array Obj := h.modify g fun
    | .cells _ t frozen => .cells cs t frozen
    | o => o
  let h1 := put w0.heap 1 (Lib.pow10Tab.map fun z => Value.int .u64 z).toArray
  let h2 := put h1 2 (Lib.firstTab.map fun z => Value.int .u8 z).toArray
  let h3 := put h2 3 ((List.range 16).flatMap fun i => [Value.int .u8 (Lib.accLo i), Value.int .u8 (Lib.accHi i)]).toArray
  let h4 := put h3 4 #[.slice (some ⟨N, 0, none⟩) T.p16.length T.p16.length]
  let h5 := put h4 5 #[.slice (some ⟨N + 1, 0, none⟩) T.n16.length T.n16.length]
  let h6 := put h5 6 #[.slice (some ⟨N + 2, 0, none⟩) T.p32.length T.p32.length]
  let h7 := put h6 7 #[.slice (some ⟨N + 3, 0, none⟩) T.n32.length T.n32.length]
  let h8 := put h7 8 #[.slice (some ⟨N + 4, 0, none⟩) Pinned.isGraphicZ.length Pinned.isGraphicZ.length]
  let h9 := put h8 9 (gdata .u8 Rows.laid_math_bits_deBruijn32tab)
  let h10 := put h9 10 (gdata .u8 Rows.laid_math_bits_deBruijn64tab)
  { w0 with heap := h10 }

noncomputable abbrev N0 : Nat := (World.settled Tryz.prog default).heap.size
theorem piece0 (os : Os) (args : Array Value) : LaidIn Tryz.prog ((laidWorld os).forCall (fun _ _ => 0) ⟨#[], args, []⟩).memory (lay10.take 4) [9, 10, 1, 3] :=
  LaidIn.of_run [9, 10, 1, 3] 8 (by kernel_rfl) (by kernel_rfl) (by kernel_rfl) (by kernel_rfl)
set_option maxRecDepth 1000000 in
theorem piece8 (os : Os) (args : Array Value) : LaidIn Tryz.prog ((laidWorld os).forCall (fun _ _ => 0) ⟨#[], args, []⟩).memory [("strconv.isGraphic", Lib.sliceData .u16 Pinned.isGraphicZ)] [8, N0 + 4] :=
  laidIn_slice (t := 222) (e := 221) (te := 221) Pinned.isGraphicZ (N0 + 4) (by kernel_rfl) (by kernel_rfl) (by kernel_rfl) (by kernel_rfl) (by kernel_rfl) (by kernel_rfl) (by kernel_rfl) (by kernel_rfl) (of_decide_eq_true (by kernel_rfl)) (of_decide_eq_true (by kernel_rfl))
set_option maxRecDepth 1000000 in
theorem piece5 (os : Os) (args : Array Value) : LaidIn Tryz.prog ((laidWorld os).forCall (fun _ _ => 0) ⟨#[], args, []⟩).memory [("strconv.isNotPrint16", Lib.sliceData .u16 Lib.goPrintTabs.n16)] [5, N0 + 1] :=
  laidIn_slice (t := 222) (e := 221) (te := 221) Lib.goPrintTabs.n16 (N0 + 1) (by kernel_rfl) (by kernel_rfl) (by kernel_rfl) (by kernel_rfl) (by kernel_rfl) (by kernel_rfl) (by kernel_rfl) (by kernel_rfl) (of_decide_eq_true (by kernel_rfl)) (of_decide_eq_true (by kernel_rfl))
set_option maxRecDepth 1000000 in
theorem piece7 (os : Os) (args : Array Value) : LaidIn Tryz.prog ((laidWorld os).forCall (fun _ _ => 0) ⟨#[], args, []⟩).memory [("strconv.isNotPrint32", Lib.sliceData .u16 Lib.goPrintTabs.n32)] [7, N0 + 3] :=
  laidIn_slice (t := 222) (e := 221) (te := 221) Lib.goPrintTabs.n32 (N0 + 3) (by kernel_rfl) (by kernel_rfl) (by kernel_rfl) (by kernel_rfl) (by kernel_rfl) (by kernel_rfl) (by kernel_rfl) (by kernel_rfl) (of_decide_eq_true (by kernel_rfl)) (of_decide_eq_true (by kernel_rfl))
set_option maxRecDepth 1000000 in
theorem piece4 (os : Os) (args : Array Value) : LaidIn Tryz.prog ((laidWorld os).forCall (fun _ _ => 0) ⟨#[], args, []⟩).memory [("strconv.isPrint16", Lib.sliceData .u16 Lib.goPrintTabs.p16)] [4, N0] :=
  laidIn_slice (t := 222) (e := 221) (te := 221) Lib.goPrintTabs.p16 N0 (by kernel_rfl) (by kernel_rfl) (by kernel_rfl) (by kernel_rfl) (by kernel_rfl) (by kernel_rfl) (by kernel_rfl) (by kernel_rfl) (of_decide_eq_true (by kernel_rfl)) (of_decide_eq_true (by kernel_rfl))
set_option maxRecDepth 1000000 in
theorem piece6 (os : Os) (args : Array Value) : LaidIn Tryz.prog ((laidWorld os).forCall (fun _ _ => 0) ⟨#[], args, []⟩).memory [("strconv.isPrint32", Lib.sliceData .u32 Lib.goPrintTabs.p32)] [6, N0 + 2] :=
  laidIn_slice (t := 205) (e := 139) (te := 139) Lib.goPrintTabs.p32 (N0 + 2) (by kernel_rfl) (by kernel_rfl) (by kernel_rfl) (by kernel_rfl) (by kernel_rfl) (by kernel_rfl) (by kernel_rfl) (by kernel_rfl) (of_decide_eq_true (by kernel_rfl)) (of_decide_eq_true (by kernel_rfl))
theorem piece2 (os : Os) (args : Array Value) : LaidIn Tryz.prog ((laidWorld os).forCall (fun _ _ => 0) ⟨#[], args, []⟩).memory [("unicode/utf8.first", Rows.laid_unicode_utf8_first)] [2] :=
  LaidIn.of_run [2] 8 (by kernel_rfl) (by kernel_rfl) (by kernel_rfl) (by kernel_rfl)
theorem e_grf : Rows.laid_strconv_isGraphic = Lib.sliceData .u16 Pinned.isGraphicZ := by kernel_rfl
theorem e_all : lay10 = lay10.take 4 ++ [("strconv.isGraphic", Lib.sliceData .u16 Pinned.isGraphicZ)] ++ [("strconv.isNotPrint16", Lib.sliceData .u16 Lib.goPrintTabs.n16)] ++ [("strconv.isNotPrint32", Lib.sliceData .u16 Lib.goPrintTabs.n32)] ++ [("strconv.isPrint16", Lib.sliceData .u16 Lib.goPrintTabs.p16)] ++ [("strconv.isPrint32", Lib.sliceData .u32 Lib.goPrintTabs.p32)] ++ [("unicode/utf8.first", Rows.laid_unicode_utf8_first)] := by
  rw [← e_grf, ← Pinned.isNotPrint16_eq, ← Pinned.isNotPrint32_eq, ← Pinned.isPrint16_eq, ← Pinned.isPrint32_eq]
  rfl
theorem laid_met (os : Os) (args : Array Value) : laidMet Tryz.prog lay10 ((laidWorld os).forCall (fun _ _ => 0) ⟨#[], args, []⟩).memory := by
  rw [e_all]
  exact ((((((piece0 os args).append (piece8 os args) (by kernel_rfl)).append (piece5 os args) (by kernel_rfl)).append (piece7 os args) (by kernel_rfl)).append (piece4 os args) (by kernel_rfl)).append (piece6 os args) (by kernel_rfl)).append (piece2 os args) (by kernel_rfl) |>.met
end Go.Proofs.Am
