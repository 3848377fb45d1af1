import Derived.Test.YtppbkblnjlbnfaaGreatDoorProg
import Derived.WalkKit
import Derived.WalkSpells
import Derived.KernelRfl
import Derived.Lib.Hide
import Derived.Laws.EntriesVeiled
import Derived.Deep.Draws
import Derived.Deep.QuietTactic
import Derived.BigQuiet
import Derived.Deep.RegionHeld3
import Derived.Deep.RegionWith
import Derived.Deep.DeepCutAuto
import Derived.Deep.LoopGhost
import Derived.OwnWalk
import Derived.WalkLawsBesides
import Derived.Laws.MakeOwn
import Derived.Laws.BytesString
/-! Strings as lists of bytes, in the walk. -/
namespace Go.Proofs.YtppbkblnjlbnfaaGreatDoor
open Go.RowKit
/-- A text out of its bytes. -/
def mkS (l : List UInt8) : ByteArray := ⟨l.toArray⟩
theorem mkS_data (l : List UInt8) : (mkS l).data.toList = l := by simp [mkS]
theorem mkS_size (l : List UInt8) : (mkS l).size = l.length := by simp [mkS, ByteArray.size]
theorem mkS_toList (l : List UInt8) : (mkS l).toList = l := by rw [ByteArray.toList_eq]; exact mkS_data l
theorem mkS_get (l : List UInt8) (k : Nat) (h : k < (mkS l).size) : (mkS l)[k]'h = l[k]'(by rw [mkS_size] at h; exact h) := by
  unfold mkS
  exact List.getElem_toArray ..
theorem mkS_append (a b : List UInt8) : mkS a ++ mkS b = mkS (a ++ b) := by
  apply ByteArray.ext; simp [mkS]
theorem mkS_inj {a b : List UInt8} (h : mkS a = mkS b) : a = b := by
  have := congrArg (fun s => s.data.toList) h
  simpa [mkS] using this
theorem mkS_surj (s : ByteArray) : ∃ l, s = mkS l := ⟨s.data.toList, by apply ByteArray.ext; simp [mkS]⟩
theorem mkS_extract (l : List UInt8) (i j : Nat) : (mkS l).extract i j = mkS ((l.drop i).take (j - i)) := by
  apply ByteArray.ext
  simp [mkS, ByteArray.data_extract]
theorem take_drop_len (l : List UInt8) (i : Nat) : (l.drop i).take (l.length - i) = l.drop i := List.take_of_length_le (by simp)
attribute [go_sem] take_drop_len mkS_size mkS_toList mkS_get mkS_append mkS_extract
theorem ret_bool {a b : Bool} (h : a = b) : Ending.returned (.bool a) = .returned (.bool b) := by rw [h]
theorem ret_int {k : IntKind} {a b : Int} (h : a = b) : Ending.returned (.int k a) = .returned (.int k b) := by rw [h]
theorem ret_str {a b : List UInt8} (h : a = b) : Ending.returned (.string (mkS a)) = .returned (.string (mkS b)) := by rw [h]
/-- What lay in w reads as before. -/
theorem bcell {W w1 : World} (hb : Below W.heap.size W w1) : (∀ b o, b < W.heap.size → w1.cell? ⟨b, o, none⟩ = W.cell? ⟨b, o, none⟩) ∧ (∀ b o, b < W.heap.size → w1.frozen? ⟨b, o, none⟩ = W.frozen? ⟨b, o, none⟩) :=
  ⟨fun b o h => hb.cell (p := ⟨b, o, none⟩) h, fun b o h => hb.frozen (p := ⟨b, o, none⟩) h⟩
theorem b_alloc {w W : World} (h : Below w.heap.size w W) (o : Obj) : Below w.heap.size w (W.alloc o) := h.alloc h.size o
theorem b_drew {w W : World} (h : Below w.heap.size w W) : Below w.heap.size w W.drew := ⟨h.os, h.tape, h.output, h.size, h.block⟩
theorem b_drewN {w W : World} (h : Below w.heap.size w W) (n : Nat) : Below w.heap.size w (W.drewN n) := ⟨h.os, h.tape, h.output, h.size, h.block⟩
theorem b_then {w w1 w2 : World} (h : Below w.heap.size w w1) (k : Below w1.heap.size w1 w2) : Below w.heap.size w w2 :=
  h.trans ⟨k.os, k.tape, k.output, k.size, fun i hi => k.block i (Nat.lt_of_lt_of_le hi h.size)⟩
theorem b_set {w W : World} (h : Below w.heap.size w W) (p : Addr) (hp : w.heap.size ≤ p.block) (v : Value) : Below w.heap.size w (W.setCell p v) := h.setCell hp v
theorem cell_lt {w : World} {b o : Nat} {v : Value} (h : w.cell? ⟨b, o, none⟩ = some v) : b < w.heap.size := World.block_lt_of_cell? w _ h
theorem cell_b {w W : World} (hb : Below w.heap.size w W) {b o : Nat} {v : Value} (h : w.cell? ⟨b, o, none⟩ = some v) : W.cell? ⟨b, o, none⟩ = some v := (hb.cell (p := ⟨b, o, none⟩) (cell_lt h)).trans h
theorem b_below_drew {B : Nat} {w W : World} (h : Below B w.drew W) : Below B w W := ⟨h.os, h.tape, h.output, h.size, h.block⟩
theorem made_eq (v : Value) (n : Nat) : madeCells #[v] n = (List.replicate n v).toArray := by
  apply Array.ext
  · simp [madeCells]
  · intro i h1 h2
    simp [madeCells, Nat.mod_one]
theorem push_fold (l : List UInt8) : ∀ r : ByteArray, (l.map fun c => (c.toNat : Int)).foldl (fun r n => r.push (UInt8.ofNat n.toNat)) r = r ++ mkS l := by
  induction l with
  | nil => intro r; apply ByteArray.ext; simp [mkS]
  | cons x t ih =>
    intro r
    rw [List.map_cons, List.foldl_cons, ih]
    apply ByteArray.ext
    simp [mkS]
/-- A slice of bytes as a text. -/
theorem run_bytes_str (w : World) (src dst e : TypeId) (hs : Tryz.prog.underlying src = some (.slice e)) (he : Tryz.prog.underlying e = some (.int .u8)) (hd : Tryz.prog.underlying dst = some .string) (g c : Nat) (l : List UInt8)
    (hc : ∀ j (h : j < l.length), w.cell? ⟨g, j, none⟩ = some (.int .u8 ((l[j]'h).toNat : Int))) : (convert src dst (.slice (some ⟨g, 0, none⟩) l.length c)).run Tryz.prog w = .ok (.string (mkS l)) w := by
  rw [run_convert_bytes_string w src dst e _ _ _ hs he hd]
  have h := run_loadCells_list (P := Tryz.prog) (w := w) ⟨g, 0, none⟩ ((l.map fun c => (c.toNat : Int)).map (Value.int .u8)) (by
    intro j v hv
    rw [List.getElem?_map, List.getElem?_map] at hv
    by_cases hj : j < l.length
    · rw [List.getElem?_eq_getElem hj] at hv
      simp at hv
      subst hv
      rw [show (⟨g, 0, none⟩ : Addr).add j = ⟨g, j, none⟩ by unfold Addr.add; split <;> simp_all]
      exact hc j hj
    · rw [List.getElem?_eq_none (by omega)] at hv
      simp at hv)
  rw [List.length_map, List.length_map] at h
  rw [run_bytesToString w _ _ _ _ h, push_fold]
  congr 2
theorem setCell_heap {w : World} {b : Nat} {cs : Array Value} {T : TypeId} (h : w.heap[b]? = some (.cells cs T (0, 0))) (o : Nat) (v : Value) : (w.setCell ⟨b, o, none⟩ v).heap[b]? = some (.cells (cs.setIfInBounds o v) T (0, 0)) := by
  simp [World.setCell, Array.getElem?_modify, h]
theorem below_le {B : Nat} {w w1 : World} (h : Below B w w1) : w.heap.size ≤ w1.heap.size := h.size
end Go.Proofs.YtppbkblnjlbnfaaGreatDoor
