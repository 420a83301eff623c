/- Issues sorted by the library's stable sort (123), also where there are none. -/
import Derived.Test.YteoikaedpgianaaRStableI
import Derived.Test.YteoikaedpgianaaRFxE
namespace Go.Proofs.Yteoikaedpgianaa
open Go.RowKit Go.Sort Go.Lib Go.Shelf Go.Proofs

set_option maxRecDepth 100000 in
theorem insIss_none (a : Option Addr) (c : Nat) (w : World) :
    Calls Try.prog 176 #[.slice a 0 c, .int .i64 0, .int .i64 0, .func (.func 124) #[] #[]] w fun r w' => r = .returned (.tuple #[]) ∧ w' = w := by
  go_enter Try.func176, Try.ntmps176
  go_wp2_with fail
  refine wp_loop_rounds 1 ?_
  rw [rounds_succ]
  go_wp2_with fail
  go_end0
  exact ⟨rfl, rfl⟩
set_option maxRecDepth 100000 in
theorem stableIss_none (a : Option Addr) (c : Nat) (w : World) :
    Calls Try.prog 156 #[.slice a 0 c, .int .i64 0, .func (.func 124) #[] #[]] w fun r w' => r = .returned (.tuple #[]) ∧ w' = w := by
  go_enter Try.func156, Try.ntmps156
  go_wp2_with fail
  refine wp_loop_rounds 1 ?_
  rw [rounds_succ]
  go_wp2_with (go_at_call 176; refine (insIss_none a c _).mono ?_; rintro r w1 ⟨rfl, rfl⟩)
  refine wp_loop_rounds 1 ?_
  rw [rounds_succ]
  go_wp2_with fail
  go_end0
  exact ⟨rfl, rfl⟩
theorem sortIss_none (a : Option Addr) (c : Nat) (w : World) :
    Calls Try.prog 123 #[.slice a 0 c, .func (.func 124) #[] #[]] w fun r w' => r = .returned (.tuple #[]) ∧ w' = w := by
  go_enter Try.func123, Try.ntmps123
  go_wp2_with (go_at_call 156; refine (stableIss_none a c _).mono ?_; rintro r w1 ⟨rfl, rfl⟩)
  go_end0
  exact ⟨rfl, rfl⟩
/-- an issue with the number by which it is sorted -/
def keyed (p : Int × Int) : Syn := (4 * p.2 + p.1, p.1, p.2)
def unkey (x : Syn) : Int × Int := x.2
/-- issues as they are made -/
def issOk (p : Int × Int) : Prop := (1 ≤ p.1 ∧ p.1 ≤ 3) ∧ 0 ≤ p.2 ∧ p.2 ≤ 1125899906842624
theorem same_perm {x y : List Syn} (h : Same keyS x y) : y.Perm x := List.perm_iff_count.2 fun a => by
  have h1 := h (keyS a)
  have e : ∀ l : List Syn, l.count a = (ofKey keyS (keyS a) l).count a := fun l => by
    unfold ofKey
    rw [List.count_filter (by simp)]
  rw [e, e x, h1]
/-- a list of issues as it lies in memory -/
def IssV (W : World) (v : Value) (Z : List (Int × Int)) : Prop := (∃ a c, v = .slice a 0 c ∧ Z = []) ∨ ∃ b c, v = .slice (some ⟨b, 0, none⟩) Z.length c ∧ b < W.heap.size ∧ RowsAt W b 0 2 (Z.map irow)
theorem IssV.still {W W' : World} {v : Value} {Z : List (Int × Int)} (h : IssV W v Z) (hb : Below W.heap.size W W') : IssV W' v Z := by
  rcases h with h | ⟨b, c, h1, h2, h3⟩
  · exact .inl h
  · exact .inr ⟨b, c, h1, Nat.lt_of_lt_of_le h2 hb.size, h3.still hb h2⟩
theorem keyed_rows {C : Array Value} {I : List (Int × Int)} (h : C.toList.take (I.length * 2) = (I.map irow).flatten) : RowsC C (I.map keyed) := by
  have hw := irows_wide I
  have hx : ∀ i p, I[i]? = some p → ∀ j, j < 2 → C[i * 2 + j]? = (irow p)[j]? := fun i p hp j hj => by
    have hl := (List.getElem?_eq_some_iff.1 hp).1
    have h1 := hw.at (i := i) (r := irow p) (by rw [List.getElem?_map, hp]; rfl) j hj
    rw [← h, List.getElem?_take_of_lt (by omega), Array.getElem?_toList] at h1
    exact h1
  refine ⟨?_, ?_, ?_⟩
  · have := congrArg List.length h
    rw [List.length_take, hw.length, List.length_map] at this
    have e : C.toList.length = C.size := Array.length_toList
    rw [List.length_map]
    omega
  · intro i x hi
    rw [List.getElem?_map] at hi
    obtain ⟨p, hp, rfl⟩ := Option.map_eq_some_iff.1 hi
    exact (hx i p hp 0 (by decide)).trans rfl
  · intro i x hi
    rw [List.getElem?_map] at hi
    obtain ⟨p, hp, rfl⟩ := Option.map_eq_some_iff.1 hi
    exact (hx i p hp 1 (by decide)).trans rfl
theorem keyed_un (I : List (Int × Int)) : (I.map keyed).map unkey = I := by rw [List.map_map]; exact (List.map_congr_left fun p _ => rfl).trans (List.map_id _)
/-- the issues, sorted -/
theorem sortIss_any (B : Nat) (v : Value) (I : List (Int × Int)) (w : World) (h : OwnI2 w B v I) (hn : I.length ≤ 1000000) (hok : ∀ p ∈ I, issOk p) :
    Calls Try.prog 123 #[v, .func (.func 124) #[] #[]] w fun r w' => r = .returned (.tuple #[]) ∧ (∃ Z, Z.Perm I ∧ issUp Z ∧ IssV w' v Z) ∧ w.grownBy w' v.ownBlock := by
  by_cases h0 : I = []
  · subst h0
    obtain ⟨a, c, hv⟩ := OwnR.slice h
    subst hv
    refine (sortIss_none a c w).mono ?_
    rintro r w' ⟨rfl, rfl⟩
    exact ⟨rfl, ⟨[], .refl _, List.Pairwise.nil, .inl ⟨a, c, rfl, rfl⟩⟩, ⟨rfl, rfl, rfl, Nat.le_refl _, fun _ _ _ => rfl⟩⟩
  · obtain ⟨_, ⟨h1, h2⟩ | ⟨g, cap, C, hv, hB, hC, h3, h4, h5, h6⟩⟩ := h.2
    · simp at h2; exact absurd h2 h0
    · subst hv
      rw [List.length_map] at h3 h6 ⊢
      refine (sortStable_any g cap I.length (I.map keyed) w (by simp) (by omega) ?_ ⟨C, hC, keyed_rows h6⟩).mono ?_
      · intro x hx
        obtain ⟨p, hp, rfl⟩ := List.mem_map.1 hx
        obtain ⟨⟨h7, h8⟩, h9, h10⟩ := hok p hp
        exact ⟨rfl, h7, h8, by show -1000000000000000000 ≤ p.2; omega, by show p.2 ≤ 1000000000000000000; omega⟩
      · rintro r w' ⟨rfl, ⟨z, hz, C', hC', hR⟩, hk⟩
        have hpz := same_perm hz.2
        have hzk : ∀ x ∈ z, ∃ p ∈ I, x = keyed p := fun x hx => by
          obtain ⟨p, hp, e⟩ := List.mem_map.1 (hpz.subset hx)
          exact ⟨p, hp, e.symm⟩
        have hzl : z.length = I.length := by rw [hpz.length_eq, List.length_map]
        refine ⟨rfl, ⟨z.map unkey, ?_, ?_, .inr ⟨g, cap, by rw [List.length_map, hzl], (Array.getElem?_eq_some_iff.1 hC').1, ?_⟩⟩, ?_⟩
        · have := hpz.map unkey
          rwa [keyed_un] at this
        · refine List.pairwise_map.2 ?_
          have hu : z.Pairwise (fun a b => keyS a ≤ keyS b) := hz.1
          refine List.Pairwise.imp_of_mem ?_ hu
          intro a b ha hb hab
          obtain ⟨p, hp, rfl⟩ := hzk a ha
          obtain ⟨q, hq, rfl⟩ := hzk b hb
          have hp2 := hok p hp
          have hq2 := hok q hq
          simp only [keyS, keyed] at hab
          show p.2 < q.2 ∨ p.2 = q.2 ∧ p.1 ≤ q.1
          unfold issOk at hp2 hq2
          omega
        · intro i r hi j hj
          rw [List.map_map, List.getElem?_map] at hi
          obtain ⟨x, hx, rfl⟩ := Option.map_eq_some_iff.1 hi
          rw [Nat.zero_add, cell_row hC']
          match j, hj with
          | 0, _ => exact (hR.at0 i x hx).trans rfl
          | 1, _ => exact (hR.at1 i x hx).trans rfl
        · exact ⟨hk.os, hk.tape, hk.output, hk.size, fun k hk1 hk2 => hk.block k hk1 (fun e => hk2 (by rw [e]; rfl))⟩
end Go.Proofs.Yteoikaedpgianaa
