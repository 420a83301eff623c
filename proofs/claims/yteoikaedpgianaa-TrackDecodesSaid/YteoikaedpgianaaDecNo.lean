/- Bytes that no decoder takes: none, or a first byte above 1. -/
import Derived.Test.YteoikaedpgianaaDecX
namespace Go.Proofs.Yteoikaedpgianaa
open Go.RowKit

theorem size59b : (Try.prog.info? 59).map (·.size) = some 14 := size59a
set_option maxRecDepth 100000 in
theorem decode_none (a : Option Addr) (c : Nat) (w : World) :
    Calls Try.prog 45 #[.slice a 0 c] w fun r w' => r = .returned noNav ∧ Below w.heap.size w w' := by
  go_enter Try.func45, Try.ntmps45
  go_wp2_with (refine wpList_store_at rfl 59 (.tmp 2) (.tmp 16) rfl rfl rfl (heap_alloc_at _ _ _ rfl) size59a rfl rfl rfl ?_)
  refine bodyPost_ret (results_at2 rfl rfl (setRow_heap _ _ _ _ _ _ (heap_alloc_at _ _ _ rfl)) Try.underlying59 rfl size59a rfl) rfl ?_
  exact ⟨rfl, below_setRow (by (repeat' (first | (with_reducible exact Below.refl _ _) | (with_reducible assumption) | (with_reducible refine Below.alloc ?_ ?_ _) | (with_reducible refine Below.drew ?_) | (with_reducible refine below_drewN ?_ _) | (with_reducible refine Below.setCell ?_ ?_ _) | (with_reducible refine below_setRow ?_ ?_ _) | go_size))) (Nat.le_refl _) _⟩
set_option maxRecDepth 100000 in
theorem rDecode_none (a : Option Addr) (c : Nat) (w : World) :
    Calls Try.prog 46 #[.slice a 0 c] w fun r w' => r = .returned noNav ∧ Below w.heap.size w w' := by
  go_enter Try.func46, Try.ntmps46
  go_wp2_with (refine wpList_store_at rfl 59 (.tmp 2) (.tmp 19) rfl rfl rfl (heap_alloc_at _ _ _ rfl) size59a rfl rfl rfl ?_)
  refine bodyPost_ret (results_at2 rfl rfl (setRow_heap _ _ _ _ _ _ (heap_alloc_at _ _ _ rfl)) Try.underlying59 rfl size59a rfl) rfl ?_
  exact ⟨rfl, below_setRow (by (repeat' (first | (with_reducible exact Below.refl _ _) | (with_reducible assumption) | (with_reducible refine Below.alloc ?_ ?_ _) | (with_reducible refine Below.drew ?_) | (with_reducible refine below_drewN ?_ _) | (with_reducible refine Below.setCell ?_ ?_ _) | (with_reducible refine below_setRow ?_ ?_ _) | go_size))) (Nat.le_refl _) _⟩
set_option maxRecDepth 100000 in
theorem decode_high (b off n c : Nat) (g : Nat → Nat) (w : World) (hn : 0 < n) (hb : bytesAt w b off n g) (hg0 : 1 < g 0) :
    Calls Try.prog 45 #[.slice (some ⟨b, off, none⟩) n c] w fun r w' => r = .returned noNav ∧ Below w.heap.size w w' := by
  have hnz : ((n : Int) == 0) = false := by simp; omega
  obtain ⟨z, hz⟩ : ∃ z : Int, z = (g 0 : Nat) := ⟨_, rfl⟩
  have hc0 : w.cell? ⟨b, off, none⟩ = some (.int .u8 z) := by rw [hz]; exact hb 0 hn
  have hca : ∀ o1, (w.alloc o1).cell? ⟨b, off, none⟩ = some (.int .u8 z) := fun _ => cell_past hc0
  have hz1 : 2 ≤ z := by omega
  clear hb hg0 hz
  go_enter Try.func45, Try.ntmps45
  go_wp2_with (refine wpList_store_at rfl 59 (.tmp 2) (.tmp 16) rfl rfl rfl (heap_alloc_at _ _ _ rfl) size59a rfl rfl rfl ?_)
  refine bodyPost_ret (results_at2 rfl rfl (setRow_heap _ _ _ _ _ _ (heap_alloc_at _ _ _ rfl)) Try.underlying59 rfl size59a rfl) rfl ?_
  exact ⟨rfl, below_setRow (by (repeat' (first | (with_reducible exact Below.refl _ _) | (with_reducible assumption) | (with_reducible refine Below.alloc ?_ ?_ _) | (with_reducible refine Below.drew ?_) | (with_reducible refine below_drewN ?_ _) | (with_reducible refine Below.setCell ?_ ?_ _) | (with_reducible refine below_setRow ?_ ?_ _) | go_size))) (Nat.le_refl _) _⟩
set_option maxRecDepth 100000 in
theorem rDecode_high (b off n c : Nat) (g : Nat → Nat) (w : World) (hn : 0 < n) (hb : bytesAt w b off n g) (hg0 : 1 < g 0) :
    Calls Try.prog 46 #[.slice (some ⟨b, off, none⟩) n c] w fun r w' => r = .returned noNav ∧ Below w.heap.size w w' := by
  have hnz : ((n : Int) == 0) = false := by simp; omega
  obtain ⟨z, hz⟩ : ∃ z : Int, z = (g 0 : Nat) := ⟨_, rfl⟩
  have hc0 : w.cell? ⟨b, off, none⟩ = some (.int .u8 z) := by rw [hz]; exact hb 0 hn
  have hca : ∀ o1, (w.alloc o1).cell? ⟨b, off, none⟩ = some (.int .u8 z) := fun _ => cell_past hc0
  have hz1 : 2 ≤ z := by omega
  clear hb hg0 hz
  go_enter Try.func46, Try.ntmps46
  go_wp2_with (refine wpList_store_at rfl 59 (.tmp 2) (.tmp 19) rfl rfl rfl (heap_alloc_at _ _ _ rfl) size59a rfl rfl rfl ?_)
  refine bodyPost_ret (results_at2 rfl rfl (setRow_heap _ _ _ _ _ _ (heap_alloc_at _ _ _ rfl)) Try.underlying59 rfl size59a rfl) rfl ?_
  exact ⟨rfl, below_setRow (by (repeat' (first | (with_reducible exact Below.refl _ _) | (with_reducible assumption) | (with_reducible refine Below.alloc ?_ ?_ _) | (with_reducible refine Below.drew ?_) | (with_reducible refine below_drewN ?_ _) | (with_reducible refine Below.setCell ?_ ?_ _) | (with_reducible refine below_setRow ?_ ?_ _) | go_size))) (Nat.le_refl _) _⟩
end Go.Proofs.Yteoikaedpgianaa
