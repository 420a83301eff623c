/- The records of an archive's files: their bytes, and what a list of them says. Plain Lean, no program in sight. -/
import Derived.Test.YtcclpdfmmdonpaaGreatXDec
namespace Go.Proofs.YtcclpdfmmdonpaaGreat
open Go.RowKit
structure Stp where
  add : List Pt
  rem : List Int
inductive Rcd where
  | base (a c f : Int) (P : List Pt)
  | step (s : Stp)
  | stamp
def recB (b : List Nat) : List Nat := bytes4 b.length ++ b ++ bytes4 (crcL (bytes4 b.length ++ b))
def Rcd.kind : Rcd -> Nat
  | .base _ _ _ _ => 1
  | .step _ => 2
  | .stamp => 3
def Rcd.data : Rcd -> List Nat
  | .base a c f P => encs encU [a, c, f] ++ (encs encU [(P.length : Int)] ++ encPs 0 P)
  | .step s => (encs encU [(s.add.length : Int)] ++ encPs 0 s.add) ++ (encs encU [(s.rem.length : Int)] ++ encs encU s.rem)
  | .stamp => []
def Rcd.body (r : Rcd) : List Nat := r.kind :: r.data
def Rcd.enc (r : Rcd) : List Nat := recB r.body
def flat (R : List Rcd) : List Nat := (R.map Rcd.enc).flatten
structure PtsOk (P : List Pt) : Prop where
  good : goodL P = true
  asc : P.Pairwise (fun p q => p.id < q.id)
theorem PtsOk.nil : PtsOk [] := ⟨rfl, List.Pairwise.nil⟩
theorem PtsOk.len {P : List Pt} (h : PtsOk P) : P.length <= 1024 := ((goodL_iff P).1 h.good).1
theorem PtsOk.nums {P : List Pt} (h : PtsOk P) : NumsOk P := nums_ok h.good h.asc
def NumOk (z : Int) : Prop := 0 <= z /\ z <= 4611686018427387903
structure StpOk (s : Stp) : Prop where
  add : PtsOk s.add
  few : s.add.length <= 12
  cut : s.rem.length <= 12
  num : ∀ z ∈ s.rem, NumOk z
def Rcd.Ok : Rcd -> Prop
  | .base a c f P => NumOk a /\ NumOk c /\ NumOk f /\ PtsOk P
  | .step s => StpOk s
  | .stamp => True
theorem bytes4_len (n : Nat) : (bytes4 n).length = 4 := rfl
theorem bytes4_byte (n : Nat) : ∀ x ∈ bytes4 n, x < 256 := fun x hx => by
  simp [bytes4] at hx; omega
theorem recB_len (b : List Nat) : (recB b).length = b.length + 8 := by
  simp [recB, bytes4_len]; omega
theorem recB_byte {b : List Nat} (h : ∀ x ∈ b, x < 256) : ∀ x ∈ recB b, x < 256 := app_byte (app_byte (bytes4_byte _) h) (bytes4_byte _)
theorem kind_lt (r : Rcd) : r.kind < 256 := by cases r <;> simp [Rcd.kind]
theorem data_byte (r : Rcd) : ∀ x ∈ r.data, x < 256 := by
  cases r with
  | base a c f P => exact app_byte (encs_byte encU_byte _) (app_byte (encs_byte encU_byte _) (encPs_byte _ _))
  | step s => exact app_byte (app_byte (encs_byte encU_byte _) (encPs_byte _ _)) (app_byte (encs_byte encU_byte _) (encs_byte encU_byte _))
  | stamp => exact fun x hx => by simp [Rcd.data] at hx
theorem body_byte (r : Rcd) : ∀ x ∈ r.body, x < 256 := fun x hx => by
  rcases List.mem_cons.1 hx with h | h
  · rw [h]; exact kind_lt r
  · exact data_byte r x h
theorem enc_byte (r : Rcd) : ∀ x ∈ r.enc, x < 256 := recB_byte (body_byte r)
theorem enc_len (r : Rcd) : r.enc.length = r.body.length + 8 := recB_len _
theorem flat_byte (R : List Rcd) : ∀ x ∈ flat R, x < 256 := fun x hx => by
  obtain ⟨l, hl, hx⟩ := List.mem_flatten.1 hx; obtain ⟨r, _, rfl⟩ := List.mem_map.1 hl; exact enc_byte r x hx
theorem pts_len {P : List Pt} (h : PtsOk P) : (encs encU [(P.length : Int)] ++ encPs 0 P).length <= 9 + 81 * P.length := by
  have h1 := encs_len (f := encU) (m := 9) [(P.length : Int)] (fun z hz => nat_len (by
    simp at hz; have := h.len; subst hz
    omega))
  have h2 := encPs_len h.nums P.length (Nat.le_refl _); rw [List.take_length] at h2; simp only [List.length_append, List.length_cons, List.length_nil] at h1 ⊢; omega
theorem nums_len {zs : List Int} (h : ∀ z ∈ zs, NumOk z) : (encs encU zs).length <= zs.length * 9 := encs_len (f := encU) (m := 9) zs (fun z hz => nat_len (h z hz))
theorem base_len {a c f : Int} {P : List Pt} (h : (Rcd.base a c f P).Ok) : (Rcd.base a c f P).body.length <= 83000 := by
  have h1 := pts_len h.2.2.2; have h2 := nums_len (zs := [a, c, f]) (by simp; exact ⟨h.1, h.2.1, h.2.2.1⟩); have h3 := h.2.2.2.len; simp only [Rcd.body, Rcd.data, Rcd.kind, List.length_cons, List.length_append, List.length_nil] at h1 h2 ⊢; omega
theorem step_len {s : Stp} (h : StpOk s) : (Rcd.step s).body.length <= 1100 := by
  have h1 := pts_len h.add; have h2 := nums_len h.num
  have h3 := nums_len (zs := [(s.rem.length : Int)]) (by
    intro z hz; simp at hz; have := h.cut; subst hz; unfold NumOk
    omega)
  have h4 := h.few; have h5 := h.cut; simp only [Rcd.body, Rcd.data, Rcd.kind, List.length_cons, List.length_append, List.length_nil] at h1 h2 h3 ⊢; omega
theorem body_len {r : Rcd} (h : r.Ok) : 1 <= r.body.length /\ r.body.length <= 83000 := by
  refine ⟨by simp [Rcd.body], ?_⟩
  cases r with
  | base a c f P => exact base_len h
  | step s => have := step_len h; omega
  | stamp => simp [Rcd.body, Rcd.data]
theorem enc_small {r : Rcd} (h : r.Ok) (hk : r.kind ≠ 1) : r.enc.length <= 1200 := by
  rw [enc_len]
  cases r with
  | base a c f P => exact absurd rfl hk
  | step s => have := step_len h; omega
  | stamp => simp [Rcd.body, Rcd.data]
theorem enc_long {r : Rcd} (h : r.Ok) : r.enc.length <= 83008 := by
  have := body_len h; rw [enc_len]; omega
theorem head_at (b rest : List Nat) : (recB b ++ rest).getD 0 0 = b.length / 16777216 % 256 /\ (recB b ++ rest).getD 1 0 = b.length / 65536 % 256 /\ (recB b ++ rest).getD 2 0 = b.length / 256 % 256 /\ (recB b ++ rest).getD 3 0 = b.length % 256 := by
  simp [recB, bytes4]
theorem head_cut (b : List Nat) {k : Nat} (hk : 4 <= k) : ((recB b).take k).getD 0 0 = b.length / 16777216 % 256 /\ ((recB b).take k).getD 1 0 = b.length / 65536 % 256 /\ ((recB b).take k).getD 2 0 = b.length / 256 % 256 /\ ((recB b).take k).getD 3 0 = b.length % 256 := by
  have h := head_at b []; rw [List.append_nil] at h; simp only [List.getD_eq_getElem?_getD] at h ⊢; rw [List.getElem?_take_of_lt (by omega), List.getElem?_take_of_lt (by omega), List.getElem?_take_of_lt (by omega), List.getElem?_take_of_lt (by omega)]; exact h
theorem rec_take (b rest : List Nat) : (recB b ++ rest).take (4 + b.length) = bytes4 b.length ++ b := by
  rw [recB, List.append_assoc (bytes4 b.length ++ b)]; rw [List.take_append_of_le_length (by simp [bytes4_len])]; exact List.take_of_length_le (by simp [bytes4_len])
theorem rec_body (b rest : List Nat) (i : Nat) (hi : i < b.length) : (recB b ++ rest).getD (4 + i) 0 = b.getD i 0 := by
  simp only [List.getD_eq_getElem?_getD, recB, List.append_assoc]; rw [List.getElem?_append_right (by simp [bytes4_len]), bytes4_len, Nat.add_sub_cancel_left, List.getElem?_append_left hi]
theorem rec_rest (b rest : List Nat) (i : Nat) : (recB b ++ rest).getD (b.length + 8 + i) 0 = rest.getD i 0 := by
  simp only [List.getD_eq_getElem?_getD]; rw [List.getElem?_append_right (by rw [recB_len]; omega), recB_len, Nat.add_sub_cancel_left]
theorem rec_sum (b rest : List Nat) : (be (fun i => (recB b ++ rest).getD (b.length + 4 + i) 0) 4).toNat = crcV (fun i => (recB b ++ rest).getD i 0) (b.length + 4) := by
  rw [crcL_take (recB b ++ rest) (by simp [recB_len]; omega), Nat.add_comm, rec_take]; have hat : ∀ j, j < 4 -> (recB b ++ rest).getD (4 + b.length + j) 0 = (bytes4 (crcL (bytes4 b.length ++ b))).getD j 0 := fun j hj => by
    simp only [List.getD_eq_getElem?_getD, recB, List.append_assoc]; rw [List.getElem?_append_right (by simp [bytes4_len]; omega), bytes4_len, List.getElem?_append_right (by omega), List.getElem?_append_left (by simp [bytes4_len]; omega)]; congr 2; omega
  exact be4 (crcL_lt _) (hat 0 (by omega)) (hat 1 (by omega)) (hat 2 (by omega)) (hat 3 (by omega))
def Stm (R : List Rcd) : Prop := ∀ i r, R[i]? = some r -> r.Ok /\ (r.kind = 1 ↔ i = 0)
def Torn (t : List Nat) : Prop := ∃ r : Rcd, r.Ok /\ ∃ k, k < r.enc.length /\ t = r.enc.take k
theorem Torn.nil : Torn [] := ⟨.stamp, trivial, 0, by rw [enc_len]; omega, rfl⟩
theorem Torn.byte {t : List Nat} (h : Torn t) : ∀ x ∈ t, x < 256 := fun x hx => by
  obtain ⟨r, _, k, _, rfl⟩ := h; exact enc_byte r x (List.mem_of_mem_take hx)
theorem Torn.len {t : List Nat} (h : Torn t) : t.length <= 83008 := by
  obtain ⟨r, hr, k, hk, rfl⟩ := h; have := enc_long hr; rw [List.length_take]; omega
theorem flat_cons (r : Rcd) (R : List Rcd) : flat (r :: R) = r.enc ++ flat R := by simp [flat]
theorem flat_append (R S : List Rcd) : flat (R ++ S) = flat R ++ flat S := by simp [flat]
theorem flat_drop {R : List Rcd} {i : Nat} {r : Rcd} (h : R[i]? = some r) : flat (R.drop i) = r.enc ++ flat (R.drop (i + 1)) := by
  obtain ⟨hi, rfl⟩ := List.getElem?_eq_some_iff.1 h; rw [List.drop_eq_getElem_cons hi, flat_cons]
theorem smalls_len : ∀ {R : List Rcd}, (∀ r ∈ R, r.Ok /\ r.kind ≠ 1) -> (flat R).length <= 1200 * R.length
  | [], _ => by simp [flat]
  | r :: R, h => by
    have h1 := smalls_len (R := R) (fun x hx => h x (by simp [hx])); have h2 := enc_small (h r (by simp)).1 (h r (by simp)).2; rw [flat_cons, List.length_append, List.length_cons]; omega
theorem Stm.tail {r : Rcd} {R : List Rcd} (h : Stm (r :: R)) : ∀ x ∈ R, x.Ok /\ x.kind ≠ 1 := fun x hx => by
  obtain ⟨i, hi, rfl⟩ := List.mem_iff_getElem.1 hx; have h1 := h (i + 1) R[i] (by simp); exact ⟨h1.1, fun e => by have := h1.2.1 e; omega⟩
theorem Stm.len {R : List Rcd} (h : Stm R) : (flat R).length <= 84000 + 1200 * R.length := by
  cases R with
  | nil => simp [flat]
  | cons r R =>
    have h1 := smalls_len h.tail; have h2 := enc_long (h 0 r rfl).1; rw [flat_cons, List.length_append, List.length_cons]; omega
theorem Stm.take {R : List Rcd} (h : Stm R) (j : Nat) : Stm (R.take j) := fun i r hi => by
  refine h i r ?_; rw [List.getElem?_take] at hi
  split at hi
  · exact hi
  · cases hi
theorem Stm.nil : Stm [] := fun i r h => by simp at h
theorem Stm.snoc {R : List Rcd} (h : Stm R) {r : Rcd} (hr : r.Ok) (hk : r.kind ≠ 1) (hn : R ≠ []) : Stm (R ++ [r]) := fun i x hi => by
  by_cases hlt : i < R.length
  · rw [List.getElem?_append_left hlt] at hi; exact h i x hi
  · rw [List.getElem?_append_right (by omega)] at hi; have h0 : i - R.length = 0 := by
      have := (List.getElem?_eq_some_iff.1 hi).1; simp at this; omega
    rw [h0] at hi; simp at hi; subst hi; have : R.length ≠ 0 := fun e => hn (List.length_eq_zero_iff.1 e)
    exact ⟨hr, ⟨fun e => absurd e hk, fun e => by omega⟩⟩
theorem flat_take : ∀ (R : List Rcd), (∀ r ∈ R, r.Ok) -> ∀ k, k <= (flat R).length ->
    ∃ j t, (flat R).take k = flat (R.take j) ++ t /\ Torn t /\ j <= R.length /\ (k < (flat R).length -> j < R.length) /\ (k = (flat R).length -> j = R.length /\ t = [])
  | [], _, k, hk => by
    simp [flat] at hk; subst hk; exact ⟨0, [], rfl, Torn.nil, Nat.le_refl _, fun h => by simp [flat] at h, fun _ => ⟨rfl, rfl⟩⟩
  | r :: R, h, k, hk => by
    rw [flat_cons, List.length_append] at hk; by_cases hlt : k < r.enc.length
    · refine ⟨0, r.enc.take k, ?_, ⟨r, h r (by simp), k, hlt, rfl⟩, by omega, fun _ => by simp, fun e => ?_⟩
      · rw [flat_cons, List.take_append_of_le_length (by omega)]; rfl
      · rw [flat_cons, List.length_append] at e; omega
    · obtain ⟨j, t, h1, h2, h3, h4, h5⟩ := flat_take R (fun x hx => h x (by simp [hx])) (k - r.enc.length) (by omega); refine ⟨j + 1, t, ?_, h2, by simp; omega, fun e => ?_, fun e => ?_⟩
      · rw [flat_cons, List.take_append, List.take_of_length_le (by omega), h1, List.take_succ_cons, flat_cons, List.append_assoc]
      · rw [flat_cons, List.length_append] at e; have := h4 (by omega); simp; omega
      · rw [flat_cons, List.length_append] at e; have := h5 (by omega); simp; omega
structure Lg where
  age : Int
  cap : Int
  first : Int
  base : List Pt
  steps : List Stp
  sealed : Bool
def Lg.zero : Lg := ⟨0, 0, 0, [], [], false⟩
def Lg.next (l : Lg) : Rcd -> Lg
  | .base a c f P => { l with age := a, cap := c, first := f, base := P }
  | .step s => { l with steps := l.steps ++ [s] }
  | .stamp => { l with sealed := true }
def lgOf (R : List Rcd) : Lg := R.foldl Lg.next Lg.zero
theorem lgOf_next {R : List Rcd} {i : Nat} {r : Rcd} (h : R[i]? = some r) : lgOf (R.take (i + 1)) = (lgOf (R.take i)).next r := by
  rw [take_next h]; simp [lgOf]
theorem lgOf_append (R S : List Rcd) : lgOf (R ++ S) = S.foldl Lg.next (lgOf R) := by simp [lgOf]
theorem fold_steps : ∀ (S : List Stp) (l : Lg), (S.map Rcd.step).foldl Lg.next l = { l with steps := l.steps ++ S }
  | [], l => by simp
  | s :: S, l => by
    rw [List.map_cons, List.foldl_cons, fold_steps S]; simp [Lg.next]
def logR (l : Lg) : List Rcd := .base l.age l.cap l.first l.base :: (l.steps.map .step ++ [.stamp])
theorem lgOf_log (l : Lg) (S : List Stp) : lgOf (logR l ++ S.map .step) = { l with steps := l.steps ++ S, sealed := true } := by
  rw [lgOf_append, fold_steps]; simp only [lgOf, logR, List.foldl_cons, List.foldl_append, List.foldl_nil, fold_steps, Lg.next, Lg.zero, List.nil_append]
theorem fold_sealed : ∀ (R : List Rcd) (l : Lg), (∀ r ∈ R, r.kind ≠ 3) -> (R.foldl Lg.next l).sealed = l.sealed
  | [], _, _ => rfl
  | r :: R, l, h => by
    rw [List.foldl_cons, fold_sealed R _ (fun x hx => h x (by simp [hx]))]
    cases r with
    | base a c f P => rfl
    | step s => rfl
    | stamp => exact absurd rfl (h .stamp (by simp))
theorem lgOf_open {R : List Rcd} (h : ∀ r ∈ R, r.kind ≠ 3) : (lgOf R).sealed = false := fold_sealed R Lg.zero h
theorem log_open (l : Lg) {j : Nat} (hj : j < (logR l).length) : ∀ r ∈ (logR l).take j, r.kind ≠ 3 := fun r hr => by
  have hlen : (logR l).length = l.steps.length + 2 := by simp [logR]
  have h1 : (logR l).take j = (Rcd.base l.age l.cap l.first l.base :: l.steps.map .step).take j := by
    rw [show logR l = (Rcd.base l.age l.cap l.first l.base :: l.steps.map .step) ++ [.stamp] from rfl, List.take_append_of_le_length (by simp; omega)]
  rw [h1] at hr; have hr := List.mem_of_mem_take hr
  rcases List.mem_cons.1 hr with e | e
  · rw [e]; simp [Rcd.kind]
  · obtain ⟨s, _, rfl⟩ := List.mem_map.1 e; simp [Rcd.kind]
structure LgOk (l : Lg) : Prop where
  age : NumOk l.age
  cap : NumOk l.cap
  first : NumOk l.first
  base : PtsOk l.base
  steps : ∀ s ∈ l.steps, StpOk s
theorem LgOk.recs {l : Lg} (h : LgOk l) : ∀ r ∈ logR l, r.Ok := fun r hr => by
  rcases List.mem_cons.1 hr with e | e
  · rw [e]; exact ⟨h.age, h.cap, h.first, h.base⟩
  · rcases List.mem_append.1 e with e | e
    · obtain ⟨s, hs, rfl⟩ := List.mem_map.1 e; exact h.steps s hs
    · simp at e; subst e; trivial
theorem LgOk.stm {l : Lg} (h : LgOk l) {S : List Stp} (hS : ∀ s ∈ S, StpOk s) : Stm (logR l ++ S.map .step) := fun i r hi => by
  cases i with
  | zero =>
    simp [logR] at hi; subst hi; exact ⟨⟨h.age, h.cap, h.first, h.base⟩, by simp [Rcd.kind]⟩
  | succ i =>
    have hm : r ∈ l.steps.map Rcd.step ++ [.stamp] ++ S.map .step := by
      simp only [logR, List.cons_append, List.getElem?_cons_succ] at hi; exact List.mem_of_getElem? hi
    refine ⟨?_, ?_⟩
    · rcases List.mem_append.1 hm with e | e
      · exact h.recs r (List.mem_cons_of_mem _ e)
      · obtain ⟨s, hs, rfl⟩ := List.mem_map.1 e; exact hS s hs
    · have hk : r.kind ≠ 1 := by
        simp only [List.mem_append, List.mem_map, List.mem_singleton] at hm
        rcases hm with (⟨s, _, rfl⟩ | rfl) | ⟨s, _, rfl⟩ <;> simp [Rcd.kind]
      exact ⟨fun e => absurd e hk, fun e => by omega⟩
end Go.Proofs.YtcclpdfmmdonpaaGreat
