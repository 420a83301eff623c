/- Plain laws of details and of TileLevels: what Detail returns, how long it is, that a tile above the last level has at most c points and that a tile stands below a full one. -/
import Derived.Test.YteanlcefdoigcaaTileM
namespace Go.Proofs.Yteanlcefdoigcaa
open Go.RowKit

/-- the error of a detail -/
def detErr (T : List Tl) (lv : Int) : Int := if TlsOk T then (if 0 ≤ lv ∧ lv ≤ 12 then 0 else 2) else 81
theorem detErr_tile {T : List Tl} {lv : Int} (h : ¬ TlsOk T) : detErr T lv = 81 := by unfold detErr; rw [if_neg h]
theorem detErr_arg {T : List Tl} {lv : Int} (h : TlsOk T) (h2 : ¬ (0 ≤ lv ∧ lv ≤ 12)) : detErr T lv = 2 := by unfold detErr; rw [if_pos h, if_neg h2]
theorem detErr_ok {T : List Tl} {lv : Int} (h : TlsOk T) (h2 : 0 ≤ lv ∧ lv ≤ 12) : detErr T lv = 0 := by unfold detErr; rw [if_pos h, if_pos h2]
structure DetRes (T : List Tl) (lv e : Int) (D : List Pt) : Prop where
  err : e = detErr T lv
  none : e ≠ 0 → D = []
  some : e = 0 → IsDet T lv D
theorem DetRes.same {T : List Tl} {lv e e' : Int} {D D' : List Pt} (h : DetRes T lv e D) (h' : DetRes T lv e' D') : e = e' ∧ D = D' := by
  have he : e = e' := h.err.trans h'.err.symm
  subst he
  refine ⟨rfl, ?_⟩
  by_cases h0 : e = 0
  · exact (h.some h0).unique (h'.some h0)
  · rw [h.none h0, h'.none h0]
theorem DetRes.bad {T : List Tl} {lv e : Int} (h : detErr T lv = e) (he : e ≠ 0) : DetRes T lv e [] := ⟨h.symm, fun _ => rfl, fun h0 => absurd h0 he⟩
theorem DetRes.good {T : List Tl} {lv : Int} {D : List Pt} (h : detErr T lv = 0) (hd : IsDet T lv D) : DetRes T lv 0 D := ⟨h.symm, fun h0 => absurd rfl h0, fun _ => hd⟩
theorem TlsOk.take {T : List Tl} (h : TlsOk T) (i : Nat) : TlsOk (T.take i) :=
  ⟨fun t ht => h.all t (List.mem_of_mem_take ht), h.order.sublist (List.take_sublist i T), h.apart.sublist (List.take_sublist i T)⟩
theorem TlOk.len {t : Tl} (h : TlOk t) : t.pts.length ≤ 1024 := (goodL_facts h.good).2.2
theorem detL_bd : ∀ {T : List Tl} (lv : Int), (∀ t ∈ T, TlOk t) → (detL T lv).length ≤ 1024 * T.length
  | [], lv, _ => by simp [detL]
  | t :: T, lv, h => by
    have ih := detL_bd lv (fun u hu => h u (List.mem_cons_of_mem _ hu))
    have ht := (h t List.mem_cons_self).len
    unfold detL at *
    by_cases hl : t.key.L ≤ lv
    · simp [hl] at ih ⊢
      omega
    · simp [hl] at ih ⊢
      omega
theorem detL_ids {T : List Tl} (h : ∀ t ∈ T, TlOk t) (lv : Int) : ∀ p ∈ detL T lv, 0 ≤ p.id ∧ p.id ≤ 1152921504606846976 := fun p hp => by
  obtain ⟨t, ht, _, hpt⟩ := detL_mem.1 hp
  exact ((goodL_facts (h t ht).good).2.1 p hpt).1
theorem TlsOk.det {T : List Tl} (h : TlsOk T) {lv : Int} {D : List Pt} (hp : D.Perm (detL T lv)) (hs : D.Pairwise (fun p q => ¬ q.id < p.id)) : IsDet T lv D := ⟨hp, asc_strict hp (h.ids lv) hs⟩
section
variable {S : List Pt} {c : Nat} {T : List Tl}
/-- a tile's points lie in its cell -/
theorem IsLayout.at (h : IsLayout S c T) {t : Tl} (ht : t ∈ T) : ∃ p ∈ t.pts, p ∈ S ∧ ∃ l : Nat, l ≤ 12 ∧ here S c l p = true ∧ t.key = cellK l p := by
  obtain ⟨p, hp⟩ := List.exists_mem_of_ne_nil _ (h.tiles.pts t ht).1
  obtain ⟨h1, l, h2, h3, _, h5⟩ := (h.tiles.mem t ht p).1 hp
  exact ⟨p, hp, h1, l, h2, h3, h5⟩
theorem lay_cap (hS : GoodS S) (h : IsLayout S c T) {t : Tl} (ht : t ∈ T) (hl : t.key.L < 12) : t.pts.length ≤ c := by
  obtain ⟨p, _, _, l, h2, _, hk⟩ := h.at ht
  have hL : t.key.L = (l : Int) := by rw [hk]; rfl
  rw [tile_len hS h ht (l := l) (by omega) hL]
  exact Nat.min_le_left _ _
/-- a tile stands below a full one -/
theorem lay_above (hg : goodL S = true) (hc : 1 ≤ c) (h : IsLayout S c T) {t : Tl} (ht : t ∈ T) (h0 : t.key.L ≠ 0) :
    ∃ u ∈ T, aboveV t.key.L t.key.x t.key.y t.key.z = .tuple #[.agg #[.int .i64 u.key.L, .int .i64 u.key.x, .int .i64 u.key.y, .int .i64 u.key.z], .int .i64 0] ∧ u.pts.length = c := by
  obtain ⟨hS, hf, _⟩ := goodL_facts hg
  obtain ⟨p, _, hpS, l, h2, hh, hk⟩ := h.at ht
  obtain ⟨m, rfl⟩ : ∃ m, l = m + 1 := ⟨l - 1, by
    have : t.key.L = (l : Int) := by rw [hk]; rfl
    omega⟩
  obtain ⟨u, hu, huk, hul⟩ := full_above hS hc h (by omega) hpS hh
  obtain ⟨_, hx, hy, hz⟩ := hf p hpS
  refine ⟨u, hu, ?_, hul⟩
  rw [hk, huk]
  exact key_cell p.x p.y p.zl hx hy hz m (by omega)
/-- the points of all levels -/
theorem det_all (hg : goodL S = true) {E : List Te} (h : IsLayout S c (E.map Te.tl)) {D : List Pt} (hd : IsDet (E.map Te.tl) 12 D) (L : List Pt) (hp : L.Perm S) (ha : L.Pairwise (fun p q => ¬ q.id < p.id)) : D = L := by
  obtain ⟨hS, hf, _⟩ := goodL_facts hg
  refine asc_same hd.asc (asc_strict hp hS.1 ha) (fun p => ?_)
  rw [hd.perm.mem_iff, hp.mem_iff, detL_mem]
  constructor
  · rintro ⟨t, ht, _, hpt⟩
    exact ((h.tiles.mem t ht p).1 hpt).1
  · intro hpS
    obtain ⟨m, _, _, hat⟩ := lvOf_13 S c p
    obtain ⟨t, ht, hk⟩ := h.tiles.all p _ ⟨hpS, hat⟩
    refine ⟨t, ht, ?_, (h.tiles.mem t ht p).2 ⟨hpS, by rw [hk]; exact hat⟩⟩
    obtain ⟨_, _, _, l, h2, _, hk2⟩ := h.at ht
    rw [hk2]
    show (l : Int) ≤ 12
    omega
theorem det_in (h : IsLayout S c T) {lv : Int} {D : List Pt} (hd : IsDet T lv D) : ∀ p ∈ D, p ∈ S := fun p hp => by
  obtain ⟨t, ht, _, hpt⟩ := detL_mem.1 (hd.perm.mem_iff.1 hp)
  exact ((h.tiles.mem t ht p).1 hpt).1
theorem det_mono {a b : Int} {D D' : List Pt} (hd : IsDet T a D) (hd' : IsDet T b D') (h : a ≤ b) : D.length ≤ D'.length := by
  rw [hd.perm.length_eq, hd'.perm.length_eq]
  exact detL_mono h
end
end Go.Proofs.Yteanlcefdoigcaa
