/- TrackDecodes: for every row of at most 256 bytes the program's Decode returns what the reference's does; for more the law answers by itself. Every input, no condition. -/
import Derived.Test.YteoikaedpgianaaDecNo
import Derived.Test.YteoikaedpgianaaDecRF
import Derived.Test.YteoikaedpgianaaRec
import Derived.Test.YteoikaedpgianaaLift
namespace Go.Proofs.Yteoikaedpgianaa
open Go.ChangeShapes Go.WideShapes Go.ChangeAt Go.RowKit

theorem flat5 : flatOf Try.prog 10 5 = some [some .u8] := by kernel_rfl
theorem size5b : (Try.prog.info? 5).map (·.size) = some ([some IntKind.u8] : List (Option IntKind)).length := by kernel_rfl
theorem wf_u8 {n : Int} (h : (Lit.int .u8 n).wf = true) : 0 ≤ n ∧ n < 256 := by
  simp [Lit.wf, IntKind.min, IntKind.max, IntKind.signed, IntKind.bits] at h
  omega
theorem bytes_rows {w : World} {b off n : Nat} (h : rows w b off 1 n [some .u8]) : ∃ g : Nat → Nat, (∀ i, g i < 256) ∧ bytesAt w b off n g := by
  have each : ∀ i, i < n → ∃ q : Nat, q < 256 ∧ w.cell? ⟨b, off + i, none⟩ = some (.int .u8 (q : Nat)) := by
    intro i hi
    obtain ⟨cs, hf, hc⟩ := h i hi
    obtain ⟨z, vs, rfl, hw, _⟩ := fits_int hf
    have hz := wf_u8 hw
    refine ⟨z.toNat, by omega, ?_⟩
    have h0 := hc 0 _ rfl
    rw [show off + i * 1 + 0 = off + i by omega] at h0
    rw [h0, show ((z.toNat : Nat) : Int) = z by omega]
  obtain ⟨q, hq⟩ := Go.Deep.choose_lt each
  refine ⟨fun i => if i < n then q i else 0, fun i => ?_, fun i hi => ?_⟩
  · show (if i < n then q i else 0) < 256
    split
    · rename_i h1; exact (hq i h1).1
    · decide
  · show World.cell? _ _ = some (Value.int .u8 ((if i < n then q i else 0 : Nat) : Int))
    rw [if_pos hi]
    exact (hq i hi).2
theorem bytes_still {w W : World} {b off n : Nat} {g : Nat → Nat} (h : bytesAt w b off n g) (hb : b < w.heap.size) (hB : Below w.heap.size w W) : bytesAt W b off n g := by
  intro i hi
  rw [World.cell?_of_block (w := w) (w' := W) (a := ⟨b, off + i, none⟩) (hB.block b hb)]
  exact h i hi

/-- both decoders return this record and this error, in any grown world -/
def Both (w : World) (v : Value) (V : Value) : Prop :=
  (∀ W, Below w.heap.size w W → Calls Try.prog 45 #[v] W fun r w' => r = .returned V ∧ Below W.heap.size W w') ∧ (∀ W, Below w.heap.size w W → Calls Try.prog 46 #[v] W fun r w' => r = .returned V ∧ Below W.heap.size W w')
/-- the shape of what they return -/
def NavV (V : Value) : Prop := ∃ (is : Bool) (t x y z e a p q d k s0 s1 s2 er : Int), V = .tuple #[.agg #[.bool is, .int .i64 t, .int .i64 x, .int .i64 y, .int .i64 z, .int .i64 e, .int .i64 a, .int .i64 p, .int .i64 q, .int .i64 d, .int .i64 k, .int .i64 s0, .int .i64 s1, .int .i64 s2], .int .i64 er]
theorem navV_no : NavV noNav := ⟨_, _, _, _, _, _, _, _, _, _, _, _, _, _, _, rfl⟩
theorem dec_both (b off n c : Nat) (g : Nat → Nat) (w : World) (hn : 0 < n) (hnc : n ≤ c) (hc : c ≤ 9223372036854775807) (hg : ∀ i, g i < 256) (hb : bytesAt w b off n g) (hbw : b < w.heap.size) :
    ∃ V, NavV V ∧ Both w (.slice (some ⟨b, off, none⟩) n c) V := by
  have hbs : ∀ W, Below w.heap.size w W → bytesAt W b off n g ∧ b < W.heap.size := fun W hW => ⟨bytes_still hb hbw hW, Nat.lt_of_lt_of_le hbw hW.size⟩
  rcases Nat.lt_or_ge 1 (g 0) with h1 | h1
  · exact ⟨noNav, navV_no, fun W hW => decode_high b off n c g W hn (hbs W hW).1 h1, fun W hW => rDecode_high b off n c g W hn (hbs W hW).1 h1⟩
  rcases Nat.eq_zero_or_pos (g 0) with h0' | h0'
  · clear h1
    rcases h0 : nextS false (stOf g n) with ⟨v0, s1⟩
    rcases h1 : nextS true s1 with ⟨v1, s2⟩
    rcases h2 : nextS true s2 with ⟨v2, s3⟩
    rcases h3 : nextS true s3 with ⟨v3, s4⟩
    rcases h4 : nextS false s4 with ⟨v4, s5⟩
    rcases h5 : nextS true s5 with ⟨v5, s6⟩
    rcases h6 : nextS true s6 with ⟨v6, s7⟩
    rcases h7 : nextS true s7 with ⟨v7, s8⟩
    rcases h8 : nextS true s8 with ⟨v8, s9⟩
    rcases h9 : nextS false s9 with ⟨v9, s10⟩
    refine ⟨_, ?_, fun W hW => decodeFix b off n c g _ s1 s2 s3 s4 s5 s6 s7 s8 s9 s10 v0 v1 v2 v3 v4 v5 v6 v7 v8 v9 W hn hnc hc (hbs W hW).1 hg (hbs W hW).2 h0' rfl h0 h1 h2 h3 h4 h5 h6 h7 h8 h9,
      fun W hW => rDecodeFix b off n c g s1 s2 s3 s4 s5 s6 s7 s8 s9 s10 v0 v1 v2 v3 v4 v5 v6 v7 v8 v9 W hn hnc hc (hbs W hW).1 hg (hbs W hW).2 h0' h0 h1 h2 h3 h4 h5 h6 h7 h8 h9⟩
    split
    · exact ⟨_, _, _, _, _, _, _, _, _, _, _, _, _, _, _, rfl⟩
    · exact navV_no
  · have h0' : g 0 = 1 := by omega
    clear h1
    rcases h0 : nextS false (stOf g n) with ⟨v0, s1⟩
    rcases h1 : nextS false s1 with ⟨v1, s2⟩
    rcases h2 : nextS false s2 with ⟨v2, s3⟩
    refine ⟨_, ?_, fun W hW => decodeSync b off n c g s1 s2 s3 v0 v1 v2 W hn hnc hc (hbs W hW).1 hg (hbs W hW).2 h0' h0 h1 h2,
      fun W hW => rDecodeSync b off n c g s1 s2 s3 v0 v1 v2 W hn hnc hc (hbs W hW).1 hg (hbs W hW).2 h0' h0 h1 h2⟩
    split
    · exact ⟨_, _, _, _, _, _, _, _, _, _, _, _, _, _, _, rfl⟩
    · exact navV_no
theorem flat59b : flatOf Try.prog 10 59 = some (none :: List.replicate 13 (some .i64)) := by kernel_rfl
theorem eq59_self (is : Bool) (t x y z e a p q d k s0 s1 s2 : Int) (W : World) : (Op.equalIn 10000 59 (.agg #[.bool is, .int .i64 t, .int .i64 x, .int .i64 y, .int .i64 z, .int .i64 e, .int .i64 a, .int .i64 p, .int .i64 q, .int .i64 d, .int .i64 k, .int .i64 s0, .int .i64 s1, .int .i64 s2]) (.agg #[.bool is, .int .i64 t, .int .i64 x, .int .i64 y, .int .i64 z, .int .i64 e, .int .i64 a, .int .i64 p, .int .i64 q, .int .i64 d, .int .i64 k, .int .i64 s0, .int .i64 s1, .int .i64 s2])).run Try.prog W = .ok true W := by
  have h := equal_struct Try.underlying59 flat59b [.bool is, .int .i64 t, .int .i64 x, .int .i64 y, .int .i64 z, .int .i64 e, .int .i64 a, .int .i64 p, .int .i64 q, .int .i64 d, .int .i64 k, .int .i64 s0, .int .i64 s1, .int .i64 s2] [.bool is, .int .i64 t, .int .i64 x, .int .i64 y, .int .i64 z, .int .i64 e, .int .i64 a, .int .i64 p, .int .i64 q, .int .i64 d, .int .i64 k, .int .i64 s0, .int .i64 s1, .int .i64 s2] rfl rfl W
  rw [sameL_refl (ks := none :: List.replicate 13 (some .i64)) rfl] at h
  exact h

set_option maxRecDepth 100000 in
set_option maxHeartbeats 800000 in
theorem decodes_law (a : Option Addr) (n c : Nat) (V : Value) (w : World) (hV : NavV V) (h : Both w (.slice a n c) V) :
    Calls Try.prog 8 #[.slice a n c] w fun r w' => r = .returned (.bool true) ∧ Below w.heap.size w w' := by
  by_cases hn : n ≤ 256
  · obtain ⟨is, t, x, y, z, e, a, p, q, d, k, s0, s1, s2, er, rfl⟩ := hV
    have H45 := hid h.1
    have H46 := hid h.2
    have q1 := eq59_self is t x y z e a p q d k s0 s1 s2
    clear h
    go_enter Try.func8, Try.ntmps8
    go_wp2_with fail
    refine (H45.out _ (by (repeat' (first | (with_reducible exact Below.refl _ _) | (with_reducible assumption) | (with_reducible refine Below.alloc ?_ ?_ _) | (with_reducible refine Below.drew ?_) | (with_reducible refine below_drewN ?_ _) | (with_reducible refine Below.setCell ?_ ?_ _) | (with_reducible refine below_setRow ?_ ?_ _) | go_size)))).mono ?_
    rintro r w1 ⟨rfl, hb⟩
    have hz1 := hb.size
    have HB := hid hb
    go_wp2_with (refine wpList_store_new rfl 59 (.tmp 3) (.tmp 14) rfl rfl rfl rfl size59a rfl rfl rfl ?_)
    refine (H46.out _ (by (repeat' (first | (with_reducible exact Below.refl _ _) | (with_reducible assumption) | (with_reducible refine Below.alloc ?_ ?_ _) | (with_reducible refine Below.drew ?_) | (with_reducible refine below_drewN ?_ _) | (with_reducible refine Below.setCell ?_ ?_ _) | (with_reducible refine below_setRow ?_ ?_ _) | go_size)))).mono ?_
    rintro r w2 ⟨rfl, hb2⟩
    have HB2 := hid ((by refine Below.trans ?_ (hb2.mono ?_); (focus ((repeat' (first | (with_reducible exact Below.refl _ _) | (with_reducible assumption) | (with_reducible refine Below.alloc ?_ ?_ _) | (with_reducible refine Below.drew ?_) | (with_reducible refine below_drewN ?_ _) | (with_reducible refine Below.setCell ?_ ?_ _) | (with_reducible refine below_setRow ?_ ?_ _) | go_size)); done)); (focus (first | (simp; done) | (simp; omega)))) : Below w.heap.size w w2)
    have G1 := hid (heap_still hb2 (heap_alloc_at _ _ _ rfl) : w2.heap[w1.heap.size]? = some (.cells #[.bool is, .int .i64 t, .int .i64 x, .int .i64 y, .int .i64 z, .int .i64 e, .int .i64 a, .int .i64 p, .int .i64 q, .int .i64 d, .int .i64 k, .int .i64 s0, .int .i64 s1, .int .i64 s2] 59))
    have hz2 := hb2.size
    simp at hz2
    clear hb hb2
    go_wp2_with (first | (refine wpList_store_new rfl 59 (.tmp 5) (.tmp 19) rfl rfl rfl rfl size59a rfl rfl rfl ?_) | (refine wpList_load_at rfl 59 (.tmp 3) rfl rfl (heap_alloc_past _ _ _ _ G1.out) Try.underlying59 rfl size59a rfl ?_) | (refine wpList_load_at rfl 59 (.tmp 5) rfl rfl (heap_alloc_at _ _ _ rfl) Try.underlying59 rfl size59a rfl ?_))
    refine (awake_any _).mono ?_
    rintro r w3 ⟨rfl, hb3⟩
    go_wp2_with fail
    go_ret
    exact ⟨rfl, (HB2.out.alloc HB2.out.size _).trans (hb3.mono (by simp; omega))⟩
  · clear h
    go_enter Try.func8, Try.ntmps8
    go_wp2_with fail
    refine (awake_any _).mono ?_
    rintro r w3 ⟨rfl, hb3⟩
    go_wp2_with fail
    go_ret
    exact ⟨rfl, hb3⟩

theorem own8 : ownKnob Try.prog.godebug = none := by kernel_rfl
theorem laid8 : laidOutB Try.prog = true := by kernel_rfl
set_option maxRecDepth 100000 in
theorem trackDecodes_lifted (os : Os) (started : os.Started) (H : Type) (enc : TypeId × Value → H) :
    ReturnsInHanded {} Try.checked os 8 .any (Rows.trackDecodesSpec.pre6 enc Try.prog Try.f8 Rows.trackDecodesRow.domain false) (Rows.trackDecodesSpec.post enc Try.prog Try.f8 false true false false) := by
  refine law_lifted (C := Try.checked) (tb := 4) own8 started (by kernel_rfl) Try.func8 rfl ?_ (show Try.f8.resultTypes = #[4] by kernel_rfl) Try.underlying4 laid8 ?_
    (ChangeSpec.witness6 (enc := enc) (C := Try.checked) false ⟨#[], #[.slice none 0 0], []⟩ 8 (by kernel_rfl) (by kernel_rfl) (by kernel_rfl) (by kernel_rfl)) ?_
  · intro ds hds
    match ds, hds with
    | [d1], _ => exact ⟨rfl, rfl, rfl⟩
  · rw [Try.params8]
    intro t ht
    simp at ht
    rcases ht with rfl
    all_goals exact ⟨by kernel_rfl, of_decide_eq_true (by kernel_rfl)⟩
  · intro W base args ds p hval hA hlt _
    change DataW.TrodAll enc Try.prog W 0 (fun _ => true) true Try.f8.params.toList args.toList ds p at hA
    change ∀ (j : Nat) t v, Try.f8.params[j]? = some t → args[j]? = some v → Value.okWide Try.prog W .any base t v at hval
    rw [Try.params8] at hA hval
    obtain ⟨v0, vs0, d0, ds0, p0, q0, hargs, rfl, rfl, h0, r0⟩ := trodAll_cons hA
    obtain ⟨rfl, rfl, rfl⟩ := trodAll_nil r0
    obtain rfl : args = #[v0] := by cases args; simp_all
    rcases open_rows Try.underlying71 flat5 size5b (by decide) (hval 0 71 v0 rfl rfl) h0 with rfl | ⟨a, c, rfl⟩ | ⟨b, off, n, c, rfl, hn, hc, hm, hr⟩
    · exact decodes_law none 0 0 noNav W navV_no ⟨fun W' _ => decode_none none 0 W', fun W' _ => rDecode_none none 0 W'⟩
    · exact decodes_law (some a) 0 c noNav W navV_no ⟨fun W' _ => decode_none _ c W', fun W' _ => rDecode_none _ c W'⟩
    · obtain ⟨g, hg, hb⟩ := bytes_rows hr
      have hbw := cell_lt (hb 0 hn)
      obtain ⟨V, hV, hB⟩ := dec_both b off n c g W hn hc (by unfold maxLen at hm; omega) hg hb hbw
      exact decodes_law _ n c V W hV hB

/-- TrackDecodes, whatever the input. -/
theorem trackDecodes_holds : Rows.TrackDecodesSaid :=
  OpenClaim.holds_of_wide 8 Try.f8 rfl rfl rfl rfl rfl rfl rfl ⟨rfl, rfl, rfl, rfl, rfl⟩ rfl rfl rfl rfl rfl (by kernel_rfl) Try.func8 (by kernel_rfl)
    (of_decide_eq_true (by kernel_rfl)) (by unfold Func.isWrapper; rw [if_neg (of_decide_eq_false (by kernel_rfl))]; exact ⟨rfl, rfl⟩)
    (fun os started H enc _ => trackDecodes_lifted os started H enc)
#print axioms trackDecodes_holds
end Go.Proofs.Yteoikaedpgianaa
