/- A region that draws its order, whose last operation waits for all others: the first ones by one predicate each, then the last one and what follows. For whatever program. -/
import Derived.Test.YteoikaedpgianaaExt2
namespace Go.Proofs.Yteoikaedpgianaa
open Go.RowKit
section
variable {P : Program} {Q : Exit → Act → World → Prop}
theorem wp_region_last {id : Nat} {l : List Oper} {A0 : Act} {w : World} (hm : P.follows .mixedOrders = true) (hb : backB 0 l = true) (ds : List (Option Nat)) (hl : l.length = ds.length) (hds : (ds.filterMap _root_.id).Nodup)
    (c : Nat) {o : Oper} (ho : l.drop c = [o]) (hb1 : backB 0 (l.take c) = true) (hcov : covers c (l.drop c) = true) (ps : List (World → Value → Prop)) (hps : StbL ps)
    (hs1 : PtSteps P l.toArray Q A0 ds w (fun j => ps.getD j (fun _ _ => True)) 0 (l.take c))
    (hlast : ∀ (K : Act → World → Prop) (us : Nat → Value) (W : World), (∀ v A' W', A' = (putF A0 ds us).put (ds.getD c none) v → Q .normal A' W' → K A' W') → Below w.heap.size w W → (∀ j, j < c → ps.getD j (fun _ _ => True) W (us j)) → wpList P l.toArray (Exit.then K Q) [o] (putF A0 ds us) W) :
    (Code.region id l.toArray true).wp P Q A0 w := by
  have hlen : l.length = c + 1 := by
    have h1 := congrArg List.length ho
    rw [List.length_drop] at h1
    simp at h1
    omega
  refine wp_region_two hm hb ds hl hds c (List.length_take_le _ _) hb1 hcov ps hps (fun L us W => (L c = false → Below w.heap.size w W ∧ ∀ j, j < c → ps.getD j (fun _ _ => True) W (us j)) ∧ (L c = true → Q .normal (putF A0 ds us) W)) ?_ hs1 ?_ ?_ (by omega)
  · intro L us W _ h2 hB hp
    exact ⟨fun _ => ⟨hB, hp⟩, fun h => by rw [h2 c (Nat.le_refl _) (by omega)] at h; cases h⟩
  · rw [List.length_take, hlen, Nat.min_eq_left (Nat.le_succ c), ho]
    refine ⟨?_, trivial⟩
    intro K L us W hK hL _ hR
    obtain ⟨hB, hp⟩ := hR.1 hL
    refine hlast K us W (fun v A' W' hA hQ => hK v A' W' hA ⟨fun h => by simp at h, fun _ => ?_⟩) hB hp
    rw [← putF_upd ds A0 us c v hds (by omega), ← hA]
    exact hQ
  · intro L us W hL hR
    exact hR.2 (hL c (by omega))
end
end Go.Proofs.Yteoikaedpgianaa
