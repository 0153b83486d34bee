-- WRITTEN FOR THIS CLAIM by given.py, a program of this session's: the kit's printer, run with contracts of the session's own. It is not a text of print.sh's.
import Derived.Test.YtnkigdcicnhepaaPGeoApartx0
import Derived.Test.YtnkigdcicnhepaaPGeoApartx2
namespace Go.Proofs.Ytnkigdcicnhepaa.PGeoApart
open Go.RowKit Go.Proofs.YtnkigdcicnhepaaW.PrintWords Go.Proofs.YtnkigdcicnhepaaW.PrintLast Go.Proofs.YtnkigdcicnhepaaW.PrintMore
attribute [local go_sem] max2_int min2_int max_two min_two max_three min_three max_four min_four   -- for this text's walks alone
set_option linter.unusedVariables false
set_option linter.unusedSimpArgs false

/-! ### geo_Log: function 20: a contract of the session's own -/
theorem bcell {W w1 : World} (hb : Below W.heap.size W w1) : (∀ b o, b < W.heap.size → w1.cell? ⟨b, o, none⟩ = W.cell? ⟨b, o, none⟩) ∧ (∀ b o, b < W.heap.size → w1.frozen? ⟨b, o, none⟩ = W.frozen? ⟨b, o, none⟩) :=
  ⟨fun b o h => hb.cell (p := ⟨b, o, none⟩) h, fun b o h => hb.frozen (p := ⟨b, o, none⟩) h⟩

theorem within1 (a b f : Int) (g : Nat) (w : World) (hc : w.cell? ⟨g, 0, none⟩ = some (.int .i64 f)) :
    Calls Try.prog 33 #[.int .i64 a, .int .i64 b, .pointer (some ⟨g, 0, none⟩)] w fun e w' => e = .returned (.agg #[.int .i64 (wrap64 (f + a)), .int .i64 b]) ∧ Below w.heap.size w w' := by
  have hu := Try.underlying33
  have hc2 : (w.alloc (.cells #[.int .i64 0, .int .i64 0] 33)).cell? ⟨g, 0, none⟩ = some (.int .i64 f) := pw_cell_below (below_alloc (Below.refl _ _) _) hc
  go_enter Try.func33, Try.ntmps33
  go_wp2
  exact bodyPost_ret (v := .agg #[.int .i64 (wrap64 (f + a)), .int .i64 b]) (by simp [results, Try.results33, go_sem]) rfl ⟨rfl, below_alloc (Below.refl _ _) _⟩

theorem within_ (W L i r : Int) (w : World) (h : geo_logs.f W L = some r) :
    Calls Try.prog 31 #[.agg #[.int .i64 W, .int .i64 L], .int .i64 i] w fun e w' => ∃ g, e = .returned (.func (.func 33) #[] #[.pointer (some ⟨g, 0, none⟩)]) ∧ w'.cell? ⟨g, 0, none⟩ = some (.int .i64 (wrap64 (r + wrap64 (i * 72)))) ∧ Below w.heap.size w w' := by
  have hu := Try.underlying24
  go_enter Try.func31, Try.ntmps31
  go_wp2_with (go_at_call 32; refine (geo_logs.calls _ _ _ _ h).mono ?_; rintro e w1 ⟨rfl, hb⟩)
  go_ret
  exact ⟨_, rfl, by go_simp, below_alloc (below_step (below_alloc (Below.refl _ _) _) hb) _⟩

def geo_Log.f (a0_0 : Int) (a0_1 : Int) (a1 : Int) : Option (Int × Int) := (geo_lane.f a0_0 a0_1 a1).bind fun t => (if t = true then (geo_logs.f a0_0 a0_1).bind fun r => some (wrap64 (wrap64 (r + wrap64 (a1 * 72))), 32) else some (0, 0))

theorem geo_Log.calls (a0_0 : Int) (a0_1 : Int) (a1 : Int) (r1 : Int) (r2 : Int) (w : World) (h : geo_Log.f a0_0 a0_1 a1 = some (r1, r2)) :
    Calls Try.prog 20 #[.agg #[.int .i64 a0_0, .int .i64 a0_1], .int .i64 a1] w fun e w' => e = .returned (.agg #[.int .i64 r1, .int .i64 r2]) ∧ Below w.heap.size w w' := by
  have huG := Try.underlying24
  have huS := Try.underlying33
  unfold geo_Log.f at h
  obtain ⟨t, ht, h⟩ := Option.bind_eq_some_iff.mp h
  cases t with
  | false =>
    rw [if_neg (by simp)] at h
    injection h with h; injection h with h1 h2; subst h1 h2
    go_enter Try.func20, Try.ntmps20
    go_wp2_with (go_at_call 30; refine (geo_lane.calls _ _ _ _ _ ht).mono ?_; rintro e w1 ⟨rfl, hb⟩; obtain ⟨hc, hf⟩ := bcell hb; have hz := hb.size; simp at hz)
    exact bodyPost_ret (v := .agg #[.int .i64 0, .int .i64 0]) (by simp [results, Try.results20, go_sem, hc, hf]) rfl ⟨rfl, below_set (below_set (below_step (below_alloc (below_alloc (Below.refl _ _) _) _) hb) (by omega)) (by omega)⟩
  | true =>
    rw [if_pos rfl] at h
    obtain ⟨r, hr, h⟩ := Option.bind_eq_some_iff.mp h
    injection h with h; injection h with h1 h2; subst h1 h2
    go_enter Try.func20, Try.ntmps20
    go_wp2_with (first | (go_at_call 30; refine (geo_lane.calls _ _ _ _ _ ht).mono ?_; rintro e w1 ⟨rfl, hb⟩; obtain ⟨hc, hf⟩ := bcell hb; have hz := hb.size; simp at hz) | (go_at_call 31; refine (within_ _ _ _ _ _ hr).mono ?_; rintro e w2 ⟨g, rfl, hg, hb2⟩; obtain ⟨hc2, hf2⟩ := bcell hb2; have hz2 := hb2.size) | (go_at_call 33; refine (within1 _ _ _ _ _ hg).mono ?_; rintro e w3 ⟨rfl, hb3⟩; obtain ⟨hc3, hf3⟩ := bcell hb3; have hz3 := hb3.size; have q0 : w3.cell? ⟨w.heap.size + 1, 0, none⟩ = some (.int .i64 0) := (by rw [hc3 _ _ (by omega), hc2 _ _ (by omega), hc _ _ (by simp)]; go_simp); have q1 : w3.cell? ⟨w.heap.size + 1, 1, none⟩ = some (.int .i64 0) := (by rw [hc3 _ _ (by omega), hc2 _ _ (by omega), hc _ _ (by simp)]; go_simp); have q2 : w3.frozen? ⟨w.heap.size + 1, 0, none⟩ = false := (by rw [hf3 _ _ (by omega), hf2 _ _ (by omega), hf _ _ (by simp)]; go_simp); have q3 : w3.frozen? ⟨w.heap.size + 1, 1, none⟩ = false := (by rw [hf3 _ _ (by omega), hf2 _ _ (by omega), hf _ _ (by simp)]; go_simp); clear hc hf hc2 hf2 hc3 hf3))
    exact bodyPost_ret (v := .agg #[.int .i64 (wrap64 (wrap64 (r + wrap64 (a1 * 72)))), .int .i64 32]) (by simp [results, Try.results20, go_sem, q0, q1, q2, q3]) rfl ⟨rfl, below_set (below_set (below_step (below_step (below_step (below_alloc (below_alloc (Below.refl _ _) _) _) hb) hb2) hb3) (by omega)) (by omega)⟩

/-! ### geo_Redo: function 22: a contract of the session's own -/
def geo_Redo.f (a0_0 : Int) (a0_1 : Int) (a1 : Int) : Option (Int × Int) := (geo_lane.f a0_0 a0_1 a1).bind fun t => (if t = true then (geo_logs.f a0_0 a0_1).bind fun r => some (wrap64 (wrap64 (r + wrap64 (a1 * 72)) + 32), 40) else some (0, 0))

theorem geo_Redo.calls (a0_0 : Int) (a0_1 : Int) (a1 : Int) (r1 : Int) (r2 : Int) (w : World) (h : geo_Redo.f a0_0 a0_1 a1 = some (r1, r2)) :
    Calls Try.prog 22 #[.agg #[.int .i64 a0_0, .int .i64 a0_1], .int .i64 a1] w fun e w' => e = .returned (.agg #[.int .i64 r1, .int .i64 r2]) ∧ Below w.heap.size w w' := by
  have huG := Try.underlying24
  have huS := Try.underlying33
  unfold geo_Redo.f at h
  obtain ⟨t, ht, h⟩ := Option.bind_eq_some_iff.mp h
  cases t with
  | false =>
    rw [if_neg (by simp)] at h
    injection h with h; injection h with h1 h2; subst h1 h2
    go_enter Try.func22, Try.ntmps22
    go_wp2_with (go_at_call 30; refine (geo_lane.calls _ _ _ _ _ ht).mono ?_; rintro e w1 ⟨rfl, hb⟩; obtain ⟨hc, hf⟩ := bcell hb; have hz := hb.size; simp at hz)
    exact bodyPost_ret (v := .agg #[.int .i64 0, .int .i64 0]) (by simp [results, Try.results22, go_sem, hc, hf]) rfl ⟨rfl, below_set (below_set (below_step (below_alloc (below_alloc (Below.refl _ _) _) _) hb) (by omega)) (by omega)⟩
  | true =>
    rw [if_pos rfl] at h
    obtain ⟨r, hr, h⟩ := Option.bind_eq_some_iff.mp h
    injection h with h; injection h with h1 h2; subst h1 h2
    go_enter Try.func22, Try.ntmps22
    go_wp2_with (first | (go_at_call 30; refine (geo_lane.calls _ _ _ _ _ ht).mono ?_; rintro e w1 ⟨rfl, hb⟩; obtain ⟨hc, hf⟩ := bcell hb; have hz := hb.size; simp at hz) | (go_at_call 31; refine (within_ _ _ _ _ _ hr).mono ?_; rintro e w2 ⟨g, rfl, hg, hb2⟩; obtain ⟨hc2, hf2⟩ := bcell hb2; have hz2 := hb2.size) | (go_at_call 33; refine (within1 _ _ _ _ _ hg).mono ?_; rintro e w3 ⟨rfl, hb3⟩; obtain ⟨hc3, hf3⟩ := bcell hb3; have hz3 := hb3.size; have q0 : w3.cell? ⟨w.heap.size + 1, 0, none⟩ = some (.int .i64 0) := (by rw [hc3 _ _ (by omega), hc2 _ _ (by omega), hc _ _ (by simp)]; go_simp); have q1 : w3.cell? ⟨w.heap.size + 1, 1, none⟩ = some (.int .i64 0) := (by rw [hc3 _ _ (by omega), hc2 _ _ (by omega), hc _ _ (by simp)]; go_simp); have q2 : w3.frozen? ⟨w.heap.size + 1, 0, none⟩ = false := (by rw [hf3 _ _ (by omega), hf2 _ _ (by omega), hf _ _ (by simp)]; go_simp); have q3 : w3.frozen? ⟨w.heap.size + 1, 1, none⟩ = false := (by rw [hf3 _ _ (by omega), hf2 _ _ (by omega), hf _ _ (by simp)]; go_simp); clear hc hf hc2 hf2 hc3 hf3))
    exact bodyPost_ret (v := .agg #[.int .i64 (wrap64 (wrap64 (r + wrap64 (a1 * 72)) + 32)), .int .i64 40]) (by simp [results, Try.results22, go_sem, q0, q1, q2, q3]) rfl ⟨rfl, below_set (below_set (below_step (below_step (below_step (below_alloc (below_alloc (Below.refl _ _) _) _) hb) hb2) hb3) (by omega)) (by omega)⟩

end Go.Proofs.Ytnkigdcicnhepaa.PGeoApart
