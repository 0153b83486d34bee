-- WRITTEN FOR THIS CLAIM by given.py, a program of this session's: the kit's printer, run with contracts of the session's own. It is not a text of print.sh's.
import Derived.Test.YtinbediigibolaaPUndoFirstx0
namespace Go.Proofs.Ytinbediigibolaa.PUndoFirst
open Go.RowKit Go.Proofs.YtinbediigibolaaW.PrintWords Go.Proofs.YtinbediigibolaaW.PrintLast Go.Proofs.YtinbediigibolaaW.PrintMore
attribute [local go_sem] max2_int min2_int max_two min_two max_three min_three max_four min_four   -- for this text's walks alone
set_option linter.unusedVariables false
set_option linter.unusedSimpArgs false
open Go.Proofs.YtinbediigibolaaX

/-! ### undo_Within: function 22: a contract of the session's own -/
def idxOf (p : S25 → Bool) (l : List S25) : Int := ((l.findIdx? p).map Int.ofNat).getD (-1)
theorem idxOf_none (p : S25 → Bool) (l : List S25) (h : ∀ j, j < l.length → p (rd_T25 l (j : Int)) = false) : idxOf p l = -1 := by
  have : l.findIdx? p = none := by
    rw [List.findIdx?_eq_none_iff]
    intro x hx
    obtain ⟨j, hj, rfl⟩ := List.mem_iff_getElem.1 hx
    have := h j hj
    simpa [rd_T25, List.getD_eq_getElem?_getD, List.getElem?_eq_getElem hj] using this
  rw [idxOf, this]; rfl
theorem idxOf_some (p : S25 → Bool) (l : List S25) (k : Nat) (hk : k < l.length) (h : ∀ j, j < k → p (rd_T25 l (j : Int)) = false) (hp : p (rd_T25 l (k : Int)) = true) : idxOf p l = (k : Int) := by
  have : l.findIdx? p = some k := by
    rw [List.findIdx?_eq_some_iff_getElem]
    refine ⟨hk, ?_, fun j hj => ?_⟩
    · simpa [rd_T25, List.getD_eq_getElem?_getD, List.getElem?_eq_getElem hk] using hp
    · have := h j hj
      simpa [rd_T25, List.getD_eq_getElem?_getD, List.getElem?_eq_getElem (show j < l.length by omega)] using this
  rw [idxOf, this]; rfl
theorem idxOf_any (p : S25 → Bool) (l : List S25) : decide (0 ≤ idxOf p l) = l.any p := by
  rw [idxOf]
  cases h : l.findIdx? p with
  | none =>
    rw [List.findIdx?_eq_none_iff] at h
    have : l.any p = false := by
      rw [List.any_eq_false]
      intro x hx
      rw [h x hx]; decide
    rw [this]; rfl
  | some k =>
    rw [List.findIdx?_eq_some_iff_getElem] at h
    obtain ⟨hk, hp, _⟩ := h
    have : l.any p = true := List.any_eq_true.2 ⟨l[k], List.getElem_mem hk, hp⟩
    rw [this]
    simp
/-- What is not within so many words. -/
def outB (n : Int) (x : S25) : Bool := decide (x.f0 < 0) || decide (wrap64 (n - (x.f1.length : Int)) < x.f0)
set_option maxHeartbeats 4000000 in
theorem within1_calls (n0 : Int) (b0 : Nat) (x : S25) (A1 : Option Addr) (c1 : Nat) (w : World) (hn : w.cell? ⟨b0, 0, none⟩ = some (.int .i64 n0)) (bb : Bool) (hbb : outB n0 x = bb) :
    Calls Try.prog 32 #[.agg #[.int .i64 x.f0, .slice A1 x.f1.length c1], .pointer (some ⟨b0, 0, none⟩)] w fun e w' => e = .returned (.bool bb) ∧ Below w.heap.size w w' := by
  have hu := Try.underlying25
  have HN := Aside0.mk hn
  clear hn
  subst hbb
  obtain ⟨f0, f1⟩ := x
  unfold outB
  dsimp only
  by_cases c : f0 < 0
  · have cb : decide (f0 < 0) = true := decide_eq_true c
    rw [cb, Bool.true_or]
    go_enter Try.func32, Try.ntmps32
    go_wp2_with ((with_reducible refine gate_dst (N := 2) rfl ?_); refine box_event ?hg (N := 2) ?hd (cs := #[.int .i64 f0, .slice A1 f1.length c1]) (t := 25) ?hr ?_; (case hd => rfl); (case hg => rfl); (case hr => first | (go_simp; done) | (go_simp; rfl)); intro gb hg w5 hbox hb; have hcz0 : w5.cell? ⟨gb, 0, none⟩ = some (.int .i64 f0) := (blk_cell hbox 0).trans rfl; have hcz1 : w5.cell? ⟨gb, 1, none⟩ = some (.slice A1 f1.length c1) := (blk_cell hbox 1).trans rfl; have hcn := (hb.cell (p := ⟨b0, 0, none⟩) (World.block_lt_of_cell? w _ HN.out)).trans HN.out; have HB := Aside0.mk hb; clear hb hbox hg)
    go_ret
    exact ⟨rfl, HB.out⟩
  · have cb : decide (f0 < 0) = false := decide_eq_false c
    rw [cb, Bool.false_or]
    go_enter Try.func32, Try.ntmps32
    go_wp2_with ((with_reducible refine gate_dst (N := 2) rfl ?_); refine box_event ?hg (N := 2) ?hd (cs := #[.int .i64 f0, .slice A1 f1.length c1]) (t := 25) ?hr ?_; (case hd => rfl); (case hg => rfl); (case hr => first | (go_simp; done) | (go_simp; rfl)); intro gb hg w5 hbox hb; have hcz0 : w5.cell? ⟨gb, 0, none⟩ = some (.int .i64 f0) := (blk_cell hbox 0).trans rfl; have hcz1 : w5.cell? ⟨gb, 1, none⟩ = some (.slice A1 f1.length c1) := (blk_cell hbox 1).trans rfl; have hcn := (hb.cell (p := ⟨b0, 0, none⟩) (World.block_lt_of_cell? w _ HN.out)).trans HN.out; have HB := Aside0.mk hb; clear hb hbox hg)
    go_ret
    exact ⟨rfl, HB.out⟩
set_option maxHeartbeats 4000000 in
set_option maxRecDepth 100000 in
theorem index_within (n0 : Int) (b0 : Nat) (A0 : Option Addr) (c0 : Nat) (l0 : List S25) (w : World) (hr0 : Kd.C k25 w A0 l0.length l0) (hc0 : l0.length ≤ c0) (hn0 : w.cell? ⟨b0, 0, none⟩ = some (.int .i64 n0)) :
    Calls Try.prog 39 #[.slice A0 l0.length c0, .func (.func 32) #[] #[.pointer (some ⟨b0, 0, none⟩)]] w fun e w' => e = .returned (.int .i64 (idxOf (outB n0) l0)) ∧ Below w.heap.size w w' := by
  have hu := Try.underlying25
  have hm : l0.length ≤ 9223372036854775807 := hr0.2.1
  have HR0 := Aside0.mk hr0
  clear hr0
  have eg := fun args (W : World) => enters_ (P := Try.prog) Try.func32 (by kernel_rfl) rfl args W
  go_enter Try.func39, Try.ntmps39
  go_wp2
  go_loopw [5, 8] (fun _ i wr => ∃ k : Nat, k ≤ l0.length ∧ i = .int .i64 k ∧ Aside0 (∀ j, j < k → (outB n0) (rd_T25 l0 (j : Int)) = false) ∧ Aside0 (Below w.heap.size w wr)) (fun _ i _ => l0.length - (intOf i).toNat)
  case atStart => exact ⟨0, Nat.zero_le _, rfl, ⟨fun j hj => by omega⟩, ⟨Below.refl _ _⟩⟩
  case round =>
    obtain ⟨k, hk, rfl, hno, hB⟩ := hrel
    by_cases hlt : k < l0.length
    · obtain ⟨ad, A1, c1, e0, h0, h1, hle, hC1⟩ := at_T25 (Kd.C_below HR0.out hB.out) (k : Int) (by omega) (by omega)
      subst e0
      simp only [Int.toNat_natCast] at h0 h1 hle hC1
      have hnw := (hB.out.cell (p := ⟨b0, 0, none⟩) (World.block_lt_of_cell? w _ hn0)).trans hn0
      obtain ⟨x, hx⟩ : ∃ x, x = rd_T25 l0 (k : Int) := ⟨_, rfl⟩
      rw [← hx] at h0 h1 hle hC1
      have HX := Aside0.mk hx
      clear hx
      cases hp : (outB n0) x with
      | true =>
        go_wp2_with (go_at_call 32; refine (within1_calls n0 b0 x A1 c1 _ hnw _ hp).mono ?_; rintro e w2 ⟨rfl, hb2⟩; have HB2 := Aside0.mk hb2; clear hb2)
        go_ret
        exact ⟨by rw [idxOf_some (outB n0) l0 k hlt hno.out (by rw [← HX.out]; exact hp)]; rfl, below_step hB.out HB2.out⟩
      | false =>
        go_wp2_with (go_at_call 32; refine (within1_calls n0 b0 x A1 c1 _ hnw _ hp).mono ?_; rintro e w2 ⟨rfl, hb2⟩; have HB2 := Aside0.mk hb2; clear hb2)
        go_roundw
        case rel => exact ⟨k + 1, by omega, by go_num, ⟨fun j hj => by
          by_cases e : j = k
          · subst e; rw [← HX.out]; exact hp
          · exact hno.out j (by omega)⟩, ⟨below_step hB.out HB2.out⟩⟩
        case measure => simp [intOf]; omega
    · obtain rfl : k = l0.length := by omega
      go_wp2
      go_ret
      exact ⟨by rw [idxOf_none (outB n0) l0 hno.out]; rfl, hB.out⟩
theorem contains_within (n0 : Int) (b0 : Nat) (A0 : Option Addr) (c0 : Nat) (l0 : List S25) (w : World) (hr0 : Kd.C k25 w A0 l0.length l0) (hc0 : l0.length ≤ c0) (hn0 : w.cell? ⟨b0, 0, none⟩ = some (.int .i64 n0)) :
    Calls Try.prog 31 #[.slice A0 l0.length c0, .func (.func 32) #[] #[.pointer (some ⟨b0, 0, none⟩)]] w fun e w' => e = .returned (.bool (l0.any (outB n0))) ∧ Below w.heap.size w w' := by
  have hany := idxOf_any (outB n0) l0
  obtain ⟨z, hz⟩ : ∃ z, z = idxOf (outB n0) l0 := ⟨_, rfl⟩
  have HZ := Aside0.mk hz
  rw [← hz] at hany
  have HA := Aside0.mk hany
  clear hz hany
  go_enter Try.func31, Try.ntmps31
  go_wp2_with (go_at_call 39; refine (index_within n0 b0 A0 c0 l0 _ hr0 hc0 hn0).mono ?_; rintro e w2 ⟨rfl, hb2⟩; rw [← HZ.out])
  go_ret
  exact ⟨by rw [← HA.out]; rfl, hb2⟩
def undo_Within.f (l0 : List S25) (a1 : Int) : Option Bool := some (!(l0.any (outB a1)))
set_option maxHeartbeats 1000000 in
theorem undo_Within.calls (A0 : Option Addr) (c0 : Nat) (l0 : List S25) (a1 : Int) (r : Bool) (w : World) (hr0 : Kd.C k25 w A0 l0.length l0) (hc0 : l0.length ≤ c0) (h : undo_Within.f l0 a1 = some r) :
    Calls Try.prog 22 #[.slice A0 l0.length c0, .int .i64 a1] w fun e w' => e = .returned (.bool r) ∧ Below w.heap.size w w' := by
  obtain rfl := Option.some.inj h
  clear h
  obtain ⟨b, hb⟩ : ∃ b, b = l0.any (outB a1) := ⟨_, rfl⟩
  have HB := Aside0.mk hb
  rw [← hb]
  clear hb
  have hz : Below w.heap.size w (w.alloc (.cells #[.int .i64 a1] 3)) := (Below.refl _ w).alloc (Nat.le_refl _) _
  have hcz : (w.alloc (.cells #[.int .i64 a1] 3)).cell? ⟨w.heap.size, 0, none⟩ = some (.int .i64 a1) := (blk_cell (World.alloc_heap_new w (.cells #[.int .i64 a1] 3)) 0).trans rfl
  have hCz := Kd.C_below hr0 hz
  go_enter Try.func22, Try.ntmps22
  go_wp2_with (go_at_call 31; refine (contains_within a1 w.heap.size A0 c0 l0 _ hCz hc0 hcz).mono ?_; rintro e w2 ⟨rfl, hb2⟩; rw [← HB.out])
  go_ret
  exact ⟨rfl, hz.trans (hb2.mono (by simp))⟩

end Go.Proofs.Ytinbediigibolaa.PUndoFirst
