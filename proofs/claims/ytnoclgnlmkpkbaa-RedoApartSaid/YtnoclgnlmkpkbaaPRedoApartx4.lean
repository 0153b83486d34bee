-- WRITTEN FOR THIS CLAIM by given.py, a program of this session's: the kit's printer, run with contracts of the session's own. It is not a text of print.sh's.
import Derived.Test.YtnoclgnlmkpkbaaPRedoApartx0
import Derived.Test.YtnoclgnlmkpkbaaPRedoApartx2
import Derived.Test.YtnoclgnlmkpkbaaPRedoApartx3
namespace Go.Proofs.Ytnoclgnlmkpkbaa.PRedoApart
open Go.RowKit Go.Proofs.YtnoclgnlmkpkbaaW.PrintWords Go.Proofs.YtnoclgnlmkpkbaaW.PrintLast Go.Proofs.YtnoclgnlmkpkbaaW.PrintMore
attribute [local go_sem] max2_int min2_int max_two min_two max_three min_three max_four min_four   -- for this text's walks alone
set_option linter.unusedVariables false
set_option linter.unusedSimpArgs false
open Go.Proofs.YtnoclgnlmkpkbaaX

/-! ### redo_Decode: function 14: a contract of the session's own -/
/-- The operations of pairs of words, or the first that is none. -/
def redo_ops : List Int → List S38 → Option (List S38 × Bool)
  | a :: b :: t, acc => (field_Get.f a 0 2).bind fun k => (field_Get.f a 2 20).bind fun p => (redo_wrong.f (wrap64 k) (wrap64 p) b).bind fun wr => if wr = true then some ([], false) else
      (redo_first.f (wrap64 k) (wrap64 p) b).bind fun x => if (x != a) = true then some ([], false) else redo_ops t (acc ++ [⟨wrap64 k, wrap64 p, b⟩])
  | _, acc => some (acc, true)
def redo_Decode.f (l0 : List Int) (a1 : Int) : Option (List S38 × Bool) :=
  if a1 < 0 then some ([], false) else if 19 < a1 then some ([], false) else if (l0.length : Int) ≤ 2 * a1 then some ([], false) else
    (seal_Open.f (l0.take (2 * a1 + 1).toNat)).bind fun o => if o.2 = true then (if o.1.length = 2 * a1.toNat then redo_ops o.1 [] else none) else some ([], false)
attribute [local go_sem] Oper.semAt_some
def redo_Decode.T9 : Bool × List (List Nat × List Nat) := (true, [([], []), ([0], [0]), ([1], [1]), ([2], [2]), ([3], [3]), ([], []), ([5], [5]), ([6], [6]), ([7, 3], [7]), ([8], [8]), ([], []), ([10], [10]), ([11], [11]), ([4, 9, 12], [4, 9, 12]), ([], []), ([14, 13, 8, 0, 1, 2, 3, 4, 5, 6, 7, 8, 9, 10, 11, 12, 13, 14], [13, 14])])
def redo_Decode.B9 : List Nat := [0, 1, 3, 7, 15, 0, 32, 96, 239, 495, 0, 1024, 3072, 8191, 0, 32767]
theorem redo_Decode.tab9 : rtab .any (opsOf Try.f14 9) = redo_Decode.T9 := by kernel_rfl
theorem redo_Decode.bits9 : waitsOk redo_Decode.T9.2 redo_Decode.B9 = true := by kernel_rfl
def redo_Decode.T10 : Bool × List (List Nat × List Nat) := (true, [([], []), ([0], [0]), ([1, 1], [1]), ([2], [2]), ([3, 2, 2], [2, 3]), ([2], [2]), ([5, 2], [2, 5]), ([6, 2], [2, 6]), ([4, 7, 2], [2, 4, 7]), ([2, 8], [2, 8])])
def redo_Decode.B10 : List Nat := [0, 1, 3, 7, 15, 7, 39, 103, 255, 511]
theorem redo_Decode.tab10 : rtab .any (opsOf Try.f14 10) = redo_Decode.T10 := by kernel_rfl
theorem redo_Decode.bits10 : waitsOk redo_Decode.T10.2 redo_Decode.B10 = true := by kernel_rfl
theorem redo_Decode.fin (tmps : Array Value) (W : World) (g g' : Nat) (v : Value) (b : Bool) (h1 : Boxed W g 22 v) (h2 : Boxed W g' 4 (.bool b)) (e1 : tmps.getD 4 undef = .pointer (some ⟨g, 0, none⟩)) (e2 : tmps.getD 5 undef = .pointer (some ⟨g', 0, none⟩)) :
    (results Try.f14 tmps).run Try.prog W = .ok (.tuple #[v, .bool b]) W := by
  have h3 := h1.cell
  have h4 := h2.cell
  have h5 : tmps[4]?.getD undef = .pointer (some ⟨g, 0, none⟩) := by simpa using e1
  have h6 : tmps[5]?.getD undef = .pointer (some ⟨g', 0, none⟩) := by simpa using e2
  simp [results, Try.f14, go_sem, h3, h4, h5, h6]
def c38 (x : S38) : List Value := [.int .i64 x.f0, .int .i64 x.f1, .int .u64 x.f2]
theorem reps38 (R : S38 → List Value → Prop) (hR : ∀ x, R x (c38 x)) : ∀ (n : Nat) (l : List S38), l.length = n → Reps R 3 l (l.flatMap c38)
  | 0, l, h => by
    obtain rfl := List.length_eq_zero_iff.1 h
    exact Reps.none _ _
  | n + 1, l, h => by
    rcases List.eq_nil_or_concat l with rfl | ⟨l', x, rfl⟩
    · simp at h
    · simp only [List.concat_eq_append] at h ⊢
      rw [List.flatMap_append, show [x].flatMap c38 = c38 x by simp]
      exact (reps38 R hR n l' (by simpa using h)).snoc (hR x) rfl
theorem R_of_own38 {W : World} {base : Nat} {v : Value} (l : List S38) (h : W.ownsRow base 38 3 v l.length (l.flatMap c38)) : Kd.R k38 38 W base (fun _ => True) v l :=
  ⟨fun _ _ => trivial, _, h, reps38 _ (fun x => k38_mkM _ _ _ x) _ l rfl⟩
theorem cell_three_new (W : World) (a b c : Value) (t : TypeId) (j : Nat) (u : Value) (h : [a, b, c][j]? = some u) : (W.alloc (.cells #[a, b, c] t)).cell? ((⟨W.heap.size, 0, none⟩ : Addr).add j) = some u := by
  have hn := World.alloc_heap_new W (.cells #[a, b, c] t)
  match j, h with
  | 0, h => injection h with h; subst h; exact (blk_cell hn 0).trans rfl
  | 1, h => injection h with h; subst h; exact (blk_cell hn 1).trans rfl
  | 2, h => injection h with h; subst h; exact (blk_cell hn 2).trans rfl
theorem boxed_own (B : Nat) (t : TypeId) (v : Value) : Own (fun (_ : List Nat) W => Boxed W B t v) := fun s A Bw row hs hg hr => Boxed.kept hs hg (fun e' => by
    obtain ⟨o, ho, hc⟩ := hr B e'.symm
    rw [show A.heap[B]? = _ from hs] at ho; cases ho; cases hc)
def opAt (o : List Int) (j : Nat) : S38 := ⟨wrap64 ((field_Get.f (rd o ((2 * j : Nat) : Int)) 0 2).getD 0), wrap64 ((field_Get.f (rd o ((2 * j : Nat) : Int)) 2 20).getD 0), rd o ((2 * j + 1 : Nat) : Int)⟩
def opsAt (o : List Int) (pre : List Nat) : List S38 := pre.map (opAt o)
theorem keeps_below {A B : World} (h : Below A.heap.size A B) : KeepsOthers A B := ⟨h.size, fun k _ hk _ => (h.block k (Array.getElem?_eq_some_iff.1 hk).1).trans hk⟩
set_option maxHeartbeats 8000000 in
set_option maxRecDepth 100000 in
theorem redo_Decode.in_ (A0 : Option Addr) (c0 : Nat) (l0 : List Int) (a1 : Int) (r1 : List S38) (r2 : Bool) (w0 : World) (hr0 : Kd.C (Kd.int .u64) w0 A0 l0.length l0) (hc0 : l0.length ≤ c0) (h : redo_Decode.f l0 a1 = some (r1, r2)) :
    CallsIn Fence.wide 6 Try.prog 14 #[.slice A0 l0.length c0, .int .i64 a1] w0 fun e w0' => ∃ v0_ : Value, e = .returned (.tuple #[v0_, .bool r2]) ∧ Kd.R k38 38 w0' w0.heap.size (fun _ => True) v0_ r1 ∧ Below w0.heap.size w0 w0' := by
  have HR0 := Aside0.mk hr0
  have HC0 := Aside0.mk hc0
  have hlm : l0.length ≤ 9223372036854775807 := hr0.2.1
  clear hr0 hc0
  have hp1 := Boxed.new w0 22 (.slice none 0 0)
  have hp2 := Boxed.new (w0.alloc (.cells #[.slice none 0 0] 22)) 4 (.bool false)
  rw [World.size_alloc] at hp2
  replace hp1 := hp1.alloc (.cells #[.bool false] 4)
  have hB2 : Below w0.heap.size w0 ((w0.alloc (.cells #[.slice none 0 0] 22)).alloc (.cells #[.bool false] 4)) := ((Below.refl _ w0).alloc (Nat.le_refl _) _).alloc (by simp) _
  refine callsIn_of_wp_marks Try.func14 rfl trivial ?_ rfl
  simp only [Try.ntmps14, List.size_toArray, List.length_cons, List.length_nil, Nat.reduceAdd, Nat.reduceSub, Array.replicate_succ, Array.replicate_zero, List.push_toArray, List.append_toArray, List.nil_append, List.cons_append]
  unfold redo_Decode.f at h
  by_cases c1 : a1 < 0
  · rw [if_pos c1] at h
    injection h with h; injection h with ha hb; subst ha; subst hb
    gi_wp2
    exact ⟨_, redo_Decode.fin _ _ _ _ _ _ hp1 hp2 rfl rfl, _, rfl, Kd.R_nil _ _ _ _ _, hB2⟩
  rw [if_neg c1] at h
  by_cases c2 : 19 < a1
  · rw [if_pos c2] at h
    injection h with h; injection h with ha hb; subst ha; subst hb
    gi_wp2
    exact ⟨_, redo_Decode.fin _ _ _ _ _ _ hp1 hp2 rfl rfl, _, rfl, Kd.R_nil _ _ _ _ _, hB2⟩
  rw [if_neg c2] at h
  obtain ⟨m, rfl⟩ := Int.eq_ofNat_of_zero_le (show 0 ≤ a1 by omega)
  have hm19 : m ≤ 19 := by omega
  by_cases c3 : (l0.length : Int) ≤ 2 * (m : Int)
  · rw [if_pos c3] at h
    injection h with h; injection h with ha hb; subst ha; subst hb
    gi_wp2
    exact ⟨_, redo_Decode.fin _ _ _ _ _ _ hp1 hp2 rfl rfl, _, rfl, Kd.R_nil _ _ _ _ _, hB2⟩
  rw [if_neg c3] at h
  obtain ⟨⟨o1, o2⟩, ho, h⟩ := Option.bind_eq_some_iff.mp h
  rw [show (2 * (m : Int) + 1).toNat = 2 * m + 1 by omega] at ho
  obtain ⟨lt, hlt⟩ : ∃ lt, lt = l0.take (2 * m + 1) := ⟨_, rfl⟩
  have hltl : lt.length = 2 * m + 1 := by rw [hlt, List.length_take]; omega
  have hcap := HC0.out
  have HRt : Aside0 (Kd.C (Kd.int .u64) w0 A0 lt.length lt) := ⟨by
    obtain ⟨i09, hi09, _, hsz9, _⟩ := info_parts info33
    have hx := (print_take_of (P := Try.prog) (Value.int .u64) 0 24 33 .i64 Try.underlying24 hi09 hsz9 A0 c0 l0 (2 * (m : Int) + 1) (by omega) (by omega) HC0.out).2.1 w0 (Kd.reads_of_C HR0.out)
    rw [show (2 * (m : Int) + 1).toNat = 2 * m + 1 by omega, ← hlt] at hx
    exact Kd.C_of_reads (h1 := fun _ => rfl) hx⟩
  rw [← hlt] at ho
  have SO := fun W h1 => seal_Open.calls A0 c0 lt o1 o2 W h1 (by omega) ho
  simp only [hltl] at SO
  rw [hltl] at HRt
  have SO' := Aside0.mk SO
  have HH : Aside0 ((if o2 = true then (if o1.length = 2 * m then redo_ops o1 [] else none) else some ([], false)) = some (r1, r2)) := ⟨by simpa using h⟩
  clear h ho SO
  cases o2 with
  | false =>
    have h := HH.out
    rw [if_neg (by decide)] at h
    injection h with h; injection h with ha hb; subst ha; subst hb
    gi_wp2_with (refine ⟨trivial, ?_⟩; gi_at_call 29; refine (callsIn_wide.2 (SO'.out _ (Kd.C_below HRt.out hB2))).mono ?_; rintro e w1 ⟨vo, rfl, hvo, hb1⟩; have HV := Aside0.mk hvo; clear hvo; have hq1 : Boxed w1 w0.heap.size 22 (.slice none 0 0) := (hb1.block _ hp1.lt).trans hp1; have hq2 : Boxed w1 (w0.heap.size + 1) 4 (.bool false) := (hb1.block _ hp2.lt).trans hp2; have hB1 : Below w0.heap.size w0 w1 := hB2.trans (hb1.mono hB2.size); have hc1 := hq1.cell; have hf1 := hq1.frozen; have hc2 := hq2.cell; have hf2 := hq2.frozen)
    exact ⟨_, redo_Decode.fin _ _ _ _ _ _ ((hq1.set _).kept (grownBy_setCell' _ _ _) (by simp)) ((hq2.kept (grownBy_setCell' _ _ _) (by simp)).set _) rfl rfl, _, rfl, Kd.R_nil _ _ _ _ _, (hB1.setCell (p := ⟨w0.heap.size, 0, none⟩) (Nat.le_refl _) _).setCell (p := ⟨w0.heap.size + 1, 0, none⟩) (by simp) _⟩
  | true =>
    have h := HH.out
    rw [if_pos rfl] at h
    by_cases hol : o1.length = 2 * m
    · rw [if_pos hol] at h
      have HH2 := Aside0.mk h
      clear h HH
      gi_wp2_with (first | (refine ⟨trivial, ?_⟩; gi_at_call 29; refine (callsIn_wide.2 (SO'.out _ (Kd.C_below HRt.out hB2))).mono ?_; rintro e w1 ⟨vo, rfl, hvo, hb1⟩; obtain ⟨Ao, co, rfl, hco, hCo⟩ := (show ∃ Ao co, vo = .slice Ao (2 * m) co ∧ 2 * m ≤ co ∧ Kd.C (Kd.int .u64) w1 Ao (2 * m) o1 from (by have hx := Kd.R_reads hvo; rw [hol] at hx; exact hx)); have HCo := Aside0.mk hCo; clear hCo; have HV := Aside0.mk hvo; clear hvo; have hq1 : Boxed w1 w0.heap.size 22 (.slice none 0 0) := (hb1.block _ hp1.lt).trans hp1; have hq2 : Boxed w1 (w0.heap.size + 1) 4 (.bool false) := (hb1.block _ hp2.lt).trans hp2; have hB1 : Below w0.heap.size w0 w1 := hB2.trans (hb1.mono hB2.size); have hc1 := hq1.cell; have hf1 := hq1.frozen; have hc2 := hq2.cell; have hf2 := hq2.frozen) | (refine ⟨trivial, ?_⟩; gi_at_call 30; refine (chunk_in (6 - 1) _ _ _ _).mono ?_; rintro e w0' ⟨rfl, rfl⟩))
      have bO := Boxed.new w1 22 (.slice none 0 0)
      have bS := Boxed.new (w1.alloc (.cells #[.slice none 0 0] 22)) 24 (.slice Ao (2 * m) co)
      have bN := Boxed.new ((w1.alloc (.cells #[.slice none 0 0] 22)).alloc (.cells #[.slice Ao (2 * m) co] 24)) 3 (.int .i64 2)
      rw [World.size_alloc] at bS
      rw [World.size_alloc, World.size_alloc] at bN
      obtain ⟨ad, had⟩ : ∃ ad, 0 < m → Ao = some ad := ⟨Ao.getD ⟨0, 0, none⟩, fun h0 => by obtain ⟨ad, e, _⟩ := HCo.out.2.2 (by omega); rw [e]; rfl⟩
      obtain ⟨w3, hw3⟩ : ∃ w3, (((w1.alloc (.cells #[.slice none 0 0] 22)).alloc (.cells #[.slice Ao (2 * m) co] 24)).alloc (.cells #[.int .i64 2] 3)) = w3 := ⟨_, rfl⟩
      have hsz : w3.heap.size = w1.heap.size + 3 := by rw [← hw3]; simp
      have hB13 : Below w1.heap.size w1 w3 := by rw [← hw3]; exact (((Below.refl _ w1).alloc (Nat.le_refl _) _).alloc (by simp) _).alloc (by simp; omega) _
      replace bO : Boxed w3 w1.heap.size 22 (.slice none 0 0) := by rw [← hw3]; exact (bO.alloc _).alloc _
      replace bS : Boxed w3 (w1.heap.size + 1) 24 (.slice Ao (2 * m) co) := by rw [← hw3]; exact bS.alloc _
      replace bN : Boxed w3 (w1.heap.size + 1 + 1) 3 (.int .i64 2) := by rw [← hw3]; exact bN
      rw [hw3]
      clear hc1 hf1 hc2 hf2 hw3
      refine wpIn_rangeT rfl (by decide) (gf := 43) (lb := #[.pointer (some ⟨w1.heap.size + 1, 0, none⟩), .pointer (some ⟨w1.heap.size + 1 + 1, 0, none⟩)]) rfl trivial (enters_of Try.func43 (by kernel_rfl) rfl)
        (chunk_seq (6 - 1) (by decide) (w1.heap.size + 1) (w1.heap.size + 1 + 1) ad Ao m co had hco (by omega) w3 (by omega) (by omega) bS.cell bN.cell) (KpC_t _ _) (fun W l o o' _ h1 h2 _ => KpC_b _ _ W l o o' h1 h2) (TC_keeps _) (fun _ _ _ _ _ _ _ _ _ h => h) (Below.refl _ _) (fun _ => rfl)
        (fun pre W => ((∃ v, Boxed W w1.heap.size 22 v ∧ W.ownsRow w1.heap.size 38 3 v pre.length ((opsAt o1 pre).flatMap c38) ∧ redo_ops (o1.drop (2 * pre.length)) (opsAt o1 pre) = some (r1, r2)) ∧ Boxed W (w1.heap.size + 1) 24 (.slice Ao (2 * m) co) ∧ Boxed W (w1.heap.size + 1 + 1) 3 (.int .i64 2)) ∧ Below w1.heap.size w1 W)
        (fun c pre W => ((c = .ret ∧ r1 = [] ∧ r2 = false) ∧ Boxed W w0.heap.size 22 (.slice none 0 0) ∧ Boxed W (w0.heap.size + 1) 4 (.bool false)) ∧ Below w0.heap.size w0 W)
        (OwnFrom.and (OwnFrom.and (Own.from (holdsRow_own w1.heap.size w1.heap.size 22 38 3 (fun (pre : List Nat) => pre.length) (fun pre => (opsAt o1 pre).flatMap c38) (fun pre _ => redo_ops (o1.drop (2 * pre.length)) (opsAt o1 pre) = some (r1, r2))) _) (OwnFrom.and (Own.from (boxed_own _ _ _) _) (Own.from (boxed_own _ _ _) _))) (ownFrom_below (Nat.le_refl _) (by omega)))
        (fun c => OwnFrom.and (OwnFrom.and (fun _ _ _ _ hs _ _ => hs) (OwnFrom.and (Own.from (boxed_own _ _ _) _) (Own.from (boxed_own _ _ _) _))) (ownFrom_below (Nat.le_refl _) (by have := hB1.size; omega)))
        (fun pre A B h ht => by obtain ⟨k, rfl⟩ := ht; obtain ⟨⟨⟨v, h1, h2, h3⟩, h4, h5⟩, h6⟩ := h; exact ⟨⟨⟨v, h1, pw_own_below h2 (pw_below_drewN (Below.refl _ _) _), h3⟩, h4, h5⟩, pw_below_drewN h6 _⟩)
        ⟨⟨⟨_, bO, World.ownsRow_nil _ _ _ _, HH2.out⟩, bS, bN⟩, hB13⟩
        (fun x => { tmps := #[Value.slice A0 l0.length c0, Value.int IntKind.i64 m, undef, undef,
          Value.pointer (some { block := w0.heap.size, off := 0 }),
          Value.pointer (some { block := w0.heap.size + 1, off := 0 }), Value.slice Ao (2 * m) co, Value.bool true,
          Value.pointer (some { block := w1.heap.size, off := 0 }), Value.slice (some (ad.add (2 * x))) 2 2, undef, Value.int IntKind.i64 m,
          Value.bool false, Value.bool false, Value.int IntKind.i64 m, Value.bool false, Value.bool false,
          Value.bool false, Value.slice A0 l0.length c0, Value.int IntKind.i64 l0.length, Value.int IntKind.i64 m,
          Value.int IntKind.i64 (2 * m), Value.bool false, Value.bool false,
          Value.tuple #[Value.slice Ao (2 * m) co, Value.bool true], Value.slice A0 l0.length c0,
          Value.int IntKind.i64 m, Value.int IntKind.i64 (2 * m), Value.int IntKind.i64 (2 * m + 1),
          Value.slice A0 (2 * m + 1) c0, Value.tuple #[Value.slice Ao (2 * m) co, Value.bool true],
          Value.slice Ao (2 * m) co, Value.bool true, Value.bool true, Value.bool false, Value.slice Ao (2 * m) co,
          Value.func (Fn.func 43) #[]
            #[Value.pointer (some { block := w1.heap.size + 1, off := 0 }),
              Value.pointer (some { block := w1.heap.size + 1 + 1, off := 0 })],
          Value.slice (some (ad.add (2 * x))) 2 2, undef, undef, undef, undef, undef, undef, undef, undef, undef, undef, undef, undef, undef, undef,
          undef, undef, undef, undef, undef, undef, undef, undef, undef, undef, undef, undef, undef, undef, undef], defers := [] }) ?assign ?body ?done ?stop
      case assign =>
        intro l y W K hK
        gi_wp2
        exact hK
      case body =>
        rintro l pre x w ⟨⟨⟨v, hv, hrow, hG⟩, hvS, hvN⟩, hBI⟩ ⟨hx, hxm⟩
        subst hx
        have hAo := had (by omega)
        subst hAo
        obtain ⟨av, hav⟩ : ∃ av, av = rd o1 ((2 * pre.length : Nat) : Int) := ⟨_, rfl⟩
        obtain ⟨bv, hbv⟩ : ∃ bv, bv = rd o1 ((2 * pre.length + 1 : Nat) : Int) := ⟨_, rfl⟩
        have hdr : o1.drop (2 * pre.length) = av :: bv :: o1.drop (2 * (pre.length + 1)) := by
          rw [List.drop_eq_getElem_cons (by omega), List.drop_eq_getElem_cons (by omega), hav, hbv]
          simp only [rd, Int.toNat_natCast]
          simp [List.getD_eq_getElem?_getD, List.getElem?_eq_getElem, show 2 * pre.length < o1.length by omega, show 2 * pre.length + 1 < o1.length by omega, show 2 * pre.length + 1 + 1 = 2 * (pre.length + 1) by omega]
        rw [hdr] at hG
        have hCw := Kd.C_below HCo.out hBI
        obtain ⟨ad132, had132⟩ : ∃ z, z = ad.add (2 * pre.length) := ⟨_, rfl⟩
        have hw132_0 : w.cell? ad132 = some (.int .u64 av) := by
          obtain ⟨ad', e', hx'⟩ := Kd.at_int hCw ((2 * pre.length : Nat) : Int) (by omega) (by omega)
          injection e' with e'
          subst e'
          rw [had132, hav]
          simp only [Int.toNat_natCast, Nat.mul_one] at hx'
          exact hx'
        have hw136_0 : w.cell? ⟨ad132.block, ad132.off + 1, none⟩ = some (.int .u64 bv) := by
          obtain ⟨ad', e', hx'⟩ := Kd.at_int hCw ((2 * pre.length + 1 : Nat) : Int) (by omega) (by omega)
          injection e' with e'
          subst e'
          rw [had132, hbv, ← add_field _ _ 1 (by omega)]
          simp only [Int.toNat_natCast, Nat.mul_one] at hx'
          exact hx'
        rw [← had132]
        rw [redo_ops] at hG
        obtain ⟨t133, A12, hG⟩ := Option.bind_eq_some_iff.mp hG
        obtain ⟨t135, A13, hG⟩ := Option.bind_eq_some_iff.mp hG
        obtain ⟨t138, A15, hG⟩ := Option.bind_eq_some_iff.mp hG
        have hop : opAt o1 pre.length = ⟨wrap64 t133, wrap64 t135, bv⟩ := by rw [opAt, ← hav, ← hbv, A12, A13]; rfl
        replace A12 := Aside0.mk A12
        replace A13 := Aside0.mk A13
        replace A15 := Aside0.mk A15
        have HG := Aside0.mk hG
        have Hop := Aside0.mk hop
        have HV := Aside0.mk hv
        have HROW := Aside0.mk hrow
        have HVS := Aside0.mk hvS
        have HVN := Aside0.mk hvN
        have HBI := Aside0.mk hBI
        clear hG hop hv hrow hvS hvN hBI hCw had132 hav hbv hdr
        have HB := Aside0.mk (below_drew1 (Below.refl w.heap.size w))
        have hw134_0 := hw132_0
        have hx132_0 : w.drew.cell? ad132 = some (.int .u64 av) := hw132_0
        have hx134_0 := hx132_0
        have hx136_0 : w.drew.cell? ⟨ad132.block, ad132.off + 1, none⟩ = some (.int .u64 bv) := hw136_0
        gi_wp2
        refine startIn_ (n := 16) (S := fun w' => w'.cell? ad132 = some (.int .u64 av) ∧ w'.cell? ad132 = some (.int .u64 av) ∧ w'.cell? ⟨ad132.block, ad132.off + 1, none⟩ = some (.int .u64 bv)) (ds := []) #[false, false, false, false, false, false, false, false, false, false, false, false, false, false, false, false] (by kernel_rfl) rfl rfl (by kernel_rfl) (fun ⟨_, _, hq⟩ => hq) ⟨((HB.out.cell (World.block_lt_of_cell? w _ hw132_0)).trans hw132_0), ((HB.out.cell (World.block_lt_of_cell? w _ hw134_0)).trans hw134_0), ((HB.out.cell (World.block_lt_of_cell? w _ hw136_0)).trans hw136_0)⟩ (fun hHeld => ?_); refine with_tabW redo_Decode.tab9 redo_Decode.bits9 (fun HT_ HW_ => ?_)
        generalize w.drew = w17 at HB hx132_0 hx134_0 hx136_0 hHeld ⊢
        refine pure_ (i := 0) (N := some 38) (v := ?_) (a' := ?_) #[true, false, false, false, false, false, false, false, false, false, false, false, false, false, false, false] rfl rfl (any_of HT_.out (by kernel_rfl)) (fun _ _ _ h => h) (Or.inl ⟨by rfl, ?_⟩) ?_ ?_
        rotate_left
        · intro w'
          go_simp
          with_reducible rfl
        rotate_left
        · simp only [Act.put, List.setIfInBounds_toArray, List.set_cons_zero, List.set_cons_succ, i64_w, i32_w]
          rfl
        refine pure_ (i := 1) (N := some 39) (v := ?_) (a' := ?_) #[true, true, false, false, false, false, false, false, false, false, false, false, false, false, false, false] rfl rfl (any_of HT_.out (by kernel_rfl)) (fun _ _ _ h => h) (Or.inl ⟨by rfl, ?_⟩) ?_ ?_
        rotate_left
        · intro w'
          go_simp
          with_reducible rfl
        rotate_left
        · simp only [Act.put, List.setIfInBounds_toArray, List.set_cons_zero, List.set_cons_succ, i64_w, i32_w]
          rfl
        refine pure_ (i := 5) (N := some 43) (v := ?_) (a' := ?_) #[true, true, false, false, false, true, false, false, false, false, false, false, false, false, false, false] rfl rfl (any_of HT_.out (by kernel_rfl)) (fun _ _ _ h => h) (Or.inl ⟨by rfl, ?_⟩) ?_ ?_
        rotate_left
        · intro w'
          go_simp
          with_reducible rfl
        rotate_left
        · simp only [Act.put, List.setIfInBounds_toArray, List.set_cons_zero, List.set_cons_succ, i64_w, i32_w]
          rfl
        refine pure_ (i := 6) (N := some 44) (v := ?_) (a' := ?_) #[true, true, false, false, false, true, true, false, false, false, false, false, false, false, false, false] rfl rfl (any_of HT_.out (by kernel_rfl)) (fun _ _ _ h => h) (Or.inl ⟨by rfl, ?_⟩) ?_ ?_
        rotate_left
        · intro w'
          go_simp
          with_reducible rfl
        rotate_left
        · simp only [Act.put, List.setIfInBounds_toArray, List.set_cons_zero, List.set_cons_succ, i64_w, i32_w]
          rfl
        refine pure_ (i := 10) (N := some 48) (v := ?_) (a' := ?_) #[true, true, false, false, false, true, true, false, false, false, true, false, false, false, false, false] rfl rfl (any_of HT_.out (by kernel_rfl)) (fun _ _ _ h => h) (Or.inl ⟨by rfl, ?_⟩) ?_ ?_
        rotate_left
        · intro w'
          go_simp
          with_reducible rfl
        rotate_left
        · simp only [Act.put, List.setIfInBounds_toArray, List.set_cons_zero, List.set_cons_succ, i64_w, i32_w]
          rfl
        refine pure_ (i := 11) (N := some 49) (v := ?_) (a' := ?_) #[true, true, false, false, false, true, true, false, false, false, true, true, false, false, false, false] rfl rfl (any_of HT_.out (by kernel_rfl)) (fun _ _ _ h => h) (Or.inl ⟨by rfl, ?_⟩) ?_ ?_
        rotate_left
        · intro w'
          go_simp
          with_reducible rfl
        rotate_left
        · simp only [Act.put, List.setIfInBounds_toArray, List.set_cons_zero, List.set_cons_succ, i64_w, i32_w]
          rfl
        refine take_ (i := 2) (N := some 40) (v := ?_) (a' := ?_) #[true, true, true, false, false, true, true, false, false, false, true, true, false, false, false, false] rfl rfl (take_ofW HT_.out HW_.out (by kernel_rfl)) (fun _ _ _ h => h) (Or.inl ⟨by rfl, ?_⟩) hHeld ?_ ?_
        rotate_left
        · rintro w' ⟨s0, s1, s2⟩
          go_simp
          with_reducible rfl
        rotate_left
        · simp only [Act.put, List.setIfInBounds_toArray, List.set_cons_zero, List.set_cons_succ, i64_w, i32_w]
          rfl
        refine take_ (i := 7) (N := some 45) (v := ?_) (a' := ?_) #[true, true, true, false, false, true, true, true, false, false, true, true, false, false, false, false] rfl rfl (take_ofW HT_.out HW_.out (by kernel_rfl)) (fun _ _ _ h => h) (Or.inl ⟨by rfl, ?_⟩) hHeld ?_ ?_
        rotate_left
        · rintro w' ⟨s0, s1, s2⟩
          go_simp
          with_reducible rfl
        rotate_left
        · simp only [Act.put, List.setIfInBounds_toArray, List.set_cons_zero, List.set_cons_succ, i64_w, i32_w]
          rfl
        refine take_ (i := 12) (N := some 50) (v := ?_) (a' := ?_) #[true, true, true, false, false, true, true, true, false, false, true, true, true, false, false, false] rfl rfl (take_ofW HT_.out HW_.out (by kernel_rfl)) (fun _ _ _ h => h) (Or.inl ⟨by rfl, ?_⟩) hHeld ?_ ?_
        rotate_left
        · rintro w' ⟨s0, s1, s2⟩
          go_simp
          with_reducible rfl
        rotate_left
        · simp only [Act.put, List.setIfInBounds_toArray, List.set_cons_zero, List.set_cons_succ, i64_w, i32_w]
          rfl
        refine join_ (σ := Nat) 1 #[true, true, true, true, true, true, true, true, true, true, true, true, true, true, true, false] (fun s_ => [(41, .int .u64 t133), (46, .int .u64 t135), (10, .pointer (some ⟨s_, 0, none⟩)), (42, .int .i64 (wrap64 (t133))), (47, .int .i64 (wrap64 (t135))), (51, .agg #[.int .i64 (wrap64 (t133)), .int .i64 (wrap64 (t135)), .int .u64 bv])]) (fun s_ w' => (w'.cell? ad132 = some (.int .u64 av) ∧ w'.cell? ad132 = some (.int .u64 av) ∧ w'.cell? ⟨ad132.block, ad132.off + 1, none⟩ = some (.int .u64 bv)) ∧ (w'.heap[s_]? = some (.cells #[.int .i64 0, .int .i64 0, .int .u64 0] 38 (0, 0))) ∧ (w.heap.size ≤ s_) ∧ (w.heap.size ≤ s_) ∧ (Below w.heap.size w w')) ?_ ?_
        rotate_left
        · intro hCont
          refine two_ (i := 3) (j := 14) (Ni := some 41) (Nj := some 10) #[true, true, true, true, false, true, true, true, false, false, true, true, true, false, false, false] #[true, true, true, false, false, true, true, true, false, false, true, true, true, false, true, false] rfl rfl rfl rfl (two_of HT_.out (by kernel_rfl)) (by decide) (by decide) (fun K hK => ?_) (fun K hK => ?_)
          · skip
            refine goes_ Try.func31 (by kernel_rfl) rfl #[.int .u64 av, .int .i64 0, .int .i64 2] (by rfl) rfl rfl (by (try simp only [List.map_toArray, List.map_cons, List.map_nil]); first | done | rfl | (simp only [List.length_drop, List.length_take]; rfl)) ?_
            with_reducible refine (field_Get.calls av 0 2 t133 _ A12.out).mono ?_
            rintro e w' ⟨rfl, ⟨nd, rfl⟩⟩
            refine ⟨_, rfl, ?_⟩
            refine hK.out _ _ ⟨((HB.out.cell (World.block_lt_of_cell? w _ hw132_0)).trans hw132_0), ((HB.out.cell (World.block_lt_of_cell? w _ hw134_0)).trans hw134_0), ((HB.out.cell (World.block_lt_of_cell? w _ hw136_0)).trans hw136_0)⟩ (fun hHeld => ?_)
            clear hK K
            refine norm_ (a' := ?_) ?_ ?_
            rotate_left
            · show Act.put _ (some 41) _ = _
              simp only [Act.put, List.setIfInBounds_toArray, List.set_cons_zero, List.set_cons_succ, i64_w, i32_w]
              rfl
            refine pure_ (i := 4) (N := some 42) (v := ?_) (a' := ?_) #[true, true, true, true, true, true, true, true, false, false, true, true, true, false, false, false] rfl rfl (any_of HT_.out (by kernel_rfl)) (fun _ _ _ h => h) (Or.inl ⟨by rfl, ?_⟩) ?_ ?_
            rotate_left
            · intro w'
              go_simp
              with_reducible rfl
            rotate_left
            · simp only [Act.put, List.setIfInBounds_toArray, List.set_cons_zero, List.set_cons_succ, i64_w, i32_w]
              rfl
            refine two_ (i := 8) (j := 14) (Ni := some 46) (Nj := some 10) #[true, true, true, true, true, true, true, true, true, false, true, true, true, false, false, false] #[true, true, true, true, true, true, true, true, false, false, true, true, true, false, true, false] rfl rfl rfl rfl (two_of HT_.out (by kernel_rfl)) (by decide) (by decide) (fun K hK => ?_) (fun K hK => ?_)
            · skip
              refine goes_ Try.func31 (by kernel_rfl) rfl #[.int .u64 av, .int .i64 2, .int .i64 20] (by rfl) rfl rfl (by (try simp only [List.map_toArray, List.map_cons, List.map_nil]); first | done | rfl | (simp only [List.length_drop, List.length_take]; rfl)) ?_
              with_reducible refine (field_Get.calls av 2 20 t135 _ A13.out).mono ?_
              rintro e w' ⟨rfl, ⟨nd, rfl⟩⟩
              refine ⟨_, rfl, ?_⟩
              refine hK.out _ _ ⟨((HB.out.cell (World.block_lt_of_cell? w _ hw132_0)).trans hw132_0), ((HB.out.cell (World.block_lt_of_cell? w _ hw134_0)).trans hw134_0), ((HB.out.cell (World.block_lt_of_cell? w _ hw136_0)).trans hw136_0)⟩ (fun hHeld => ?_)
              clear hK K
              refine norm_ (a' := ?_) ?_ ?_
              rotate_left
              · show Act.put _ (some 46) _ = _
                simp only [Act.put, List.setIfInBounds_toArray, List.set_cons_zero, List.set_cons_succ, i64_w, i32_w]
                rfl
              refine pure_ (i := 9) (N := some 47) (v := ?_) (a' := ?_) #[true, true, true, true, true, true, true, true, true, true, true, true, true, false, false, false] rfl rfl (any_of HT_.out (by kernel_rfl)) (fun _ _ _ h => h) (Or.inl ⟨by rfl, ?_⟩) ?_ ?_
              rotate_left
              · intro w'
                go_simp
                with_reducible rfl
              rotate_left
              · simp only [Act.put, List.setIfInBounds_toArray, List.set_cons_zero, List.set_cons_succ, i64_w, i32_w]
                rfl
              refine pure_ (i := 13) (N := some 51) (v := ?_) (a' := ?_) #[true, true, true, true, true, true, true, true, true, true, true, true, true, true, false, false] rfl rfl (any_of HT_.out (by kernel_rfl)) (fun _ _ _ h => h) (Or.inl ⟨by rfl, ?_⟩) ?_ ?_
              rotate_left
              · intro w'
                go_simp
                with_reducible rfl
              rotate_left
              · simp only [Act.put, List.setIfInBounds_toArray, List.set_cons_zero, List.set_cons_succ, i64_w, i32_w]
                rfl
              refine one_ (i := 14) (N := some 10) #[true, true, true, true, true, true, true, true, true, true, true, true, true, true, true, false] rfl rfl (one_of HT_.out (by kernel_rfl)) (by decide) (fun K hK => ?_)
              refine box_step ?hg (N := 10) ?hd (cs := #[.int .i64 0, .int .i64 0, .int .u64 0]) (t := 38) ?hr ?_; (case hd => rfl); (case hg => rfl); (case hr => first | (go_simp; done) | (go_simp; rfl))
              intro gb137 hg w18 hbox hb
              have n0_ := Aside0.mk (below_step (by repeat (first | (with_reducible first | exact HB.out | apply below_alloc | apply pw_below_drewN | apply below_drew1) | exact HB.out)) hb)
              have n1_ := Aside0.mk (hbox)
              have n2_ := Aside0.mk ((by rw [hg]; exact (below_size (by repeat (first | (with_reducible first | exact HB.out | apply below_alloc | apply pw_below_drewN | apply below_drew1) | exact HB.out))) : w.heap.size ≤ gb137))
              have n3_ := Aside0.mk ((by rw [hg]; exact (below_size (by repeat (first | (with_reducible first | exact HB.out | apply below_alloc | apply pw_below_drewN | apply below_drew1) | exact HB.out))) : w.heap.size ≤ gb137))
              clear HB
              have HB := n0_
              have BK137 := n1_
              have GW137 := n2_
              have GE137 := n3_
              clear n0_ n1_ n2_ n3_
              clear hb hbox hg
              refine hK.out _ _ ⟨((HB.out.cell (World.block_lt_of_cell? w _ hw132_0)).trans hw132_0), ((HB.out.cell (World.block_lt_of_cell? w _ hw134_0)).trans hw134_0), ((HB.out.cell (World.block_lt_of_cell? w _ hw136_0)).trans hw136_0)⟩ (fun hHeld => ?_)
              clear hK K
              refine norm_ (a' := ?_) ?_ ?_
              rotate_left
              · show Act.put _ (some 10) _ = _
                simp only [Act.put, List.setIfInBounds_toArray, List.set_cons_zero, List.set_cons_succ, i64_w, i32_w]
                rfl
              exact norm_ (by simp only [putAll, Act.put, List.setIfInBounds_toArray, List.set_cons_zero, List.set_cons_succ]) (hCont (gb137) _ ⟨hHeld, (by (with_reducible repeat (first | refine blk_drewN ?_ _ | refine blk_drew ?_ | refine blk_alloc ?_ _)); exact BK137.out), GW137.out, GE137.out, (by repeat (first | (with_reducible first | exact HB.out | apply below_alloc | apply pw_below_drewN | apply below_drew1 | refine below_set ?_ GE137.out) | exact HB.out))⟩)
            · skip
              refine box_step ?hg (N := 10) ?hd (cs := #[.int .i64 0, .int .i64 0, .int .u64 0]) (t := 38) ?hr ?_; (case hd => rfl); (case hg => rfl); (case hr => first | (go_simp; done) | (go_simp; rfl))
              intro gb137 hg w18 hbox hb
              have n0_ := Aside0.mk (below_step (by repeat (first | (with_reducible first | exact HB.out | apply below_alloc | apply pw_below_drewN | apply below_drew1) | exact HB.out)) hb)
              have n1_ := Aside0.mk (hbox)
              have n2_ := Aside0.mk ((by rw [hg]; exact (below_size (by repeat (first | (with_reducible first | exact HB.out | apply below_alloc | apply pw_below_drewN | apply below_drew1) | exact HB.out))) : w.heap.size ≤ gb137))
              have n3_ := Aside0.mk ((by rw [hg]; exact (below_size (by repeat (first | (with_reducible first | exact HB.out | apply below_alloc | apply pw_below_drewN | apply below_drew1) | exact HB.out))) : w.heap.size ≤ gb137))
              clear HB
              have HB := n0_
              have BK137 := n1_
              have GW137 := n2_
              have GE137 := n3_
              clear n0_ n1_ n2_ n3_
              clear hb hbox hg
              refine hK.out _ _ ⟨((HB.out.cell (World.block_lt_of_cell? w _ hw132_0)).trans hw132_0), ((HB.out.cell (World.block_lt_of_cell? w _ hw134_0)).trans hw134_0), ((HB.out.cell (World.block_lt_of_cell? w _ hw136_0)).trans hw136_0)⟩ (fun hHeld => ?_)
              clear hK K
              refine norm_ (a' := ?_) ?_ ?_
              rotate_left
              · show Act.put _ (some 10) _ = _
                simp only [Act.put, List.setIfInBounds_toArray, List.set_cons_zero, List.set_cons_succ, i64_w, i32_w]
                rfl
              refine one_ (i := 8) (N := some 46) #[true, true, true, true, true, true, true, true, true, false, true, true, true, false, true, false] rfl rfl (one_of HT_.out (by kernel_rfl)) (by decide) (fun K hK => ?_)
              refine goes_ Try.func31 (by kernel_rfl) rfl #[.int .u64 av, .int .i64 2, .int .i64 20] (by rfl) rfl rfl (by (try simp only [List.map_toArray, List.map_cons, List.map_nil]); first | done | rfl | (simp only [List.length_drop, List.length_take]; rfl)) ?_
              with_reducible refine (field_Get.calls av 2 20 t135 _ A13.out).mono ?_
              rintro e w' ⟨rfl, ⟨nd, rfl⟩⟩
              refine ⟨_, rfl, ?_⟩
              refine hK.out _ _ ⟨((HB.out.cell (World.block_lt_of_cell? w _ hw132_0)).trans hw132_0), ((HB.out.cell (World.block_lt_of_cell? w _ hw134_0)).trans hw134_0), ((HB.out.cell (World.block_lt_of_cell? w _ hw136_0)).trans hw136_0)⟩ (fun hHeld => ?_)
              clear hK K
              refine norm_ (a' := ?_) ?_ ?_
              rotate_left
              · show Act.put _ (some 46) _ = _
                simp only [Act.put, List.setIfInBounds_toArray, List.set_cons_zero, List.set_cons_succ, i64_w, i32_w]
                rfl
              refine pure_ (i := 9) (N := some 47) (v := ?_) (a' := ?_) #[true, true, true, true, true, true, true, true, true, true, true, true, true, false, true, false] rfl rfl (any_of HT_.out (by kernel_rfl)) (fun _ _ _ h => h) (Or.inl ⟨by rfl, ?_⟩) ?_ ?_
              rotate_left
              · intro w'
                go_simp
                with_reducible rfl
              rotate_left
              · simp only [Act.put, List.setIfInBounds_toArray, List.set_cons_zero, List.set_cons_succ, i64_w, i32_w]
                rfl
              refine pure_ (i := 13) (N := some 51) (v := ?_) (a' := ?_) #[true, true, true, true, true, true, true, true, true, true, true, true, true, true, true, false] rfl rfl (any_of HT_.out (by kernel_rfl)) (fun _ _ _ h => h) (Or.inl ⟨by rfl, ?_⟩) ?_ ?_
              rotate_left
              · intro w'
                go_simp
                with_reducible rfl
              rotate_left
              · simp only [Act.put, List.setIfInBounds_toArray, List.set_cons_zero, List.set_cons_succ, i64_w, i32_w]
                rfl
              exact norm_ (by simp only [putAll, Act.put, List.setIfInBounds_toArray, List.set_cons_zero, List.set_cons_succ]) (hCont (gb137) _ ⟨hHeld, (by (with_reducible repeat (first | refine blk_drewN ?_ _ | refine blk_drew ?_ | refine blk_alloc ?_ _)); exact BK137.out), GW137.out, GE137.out, (by repeat (first | (with_reducible first | exact HB.out | apply below_alloc | apply pw_below_drewN | apply below_drew1 | refine below_set ?_ GE137.out) | exact HB.out))⟩)
          · skip
            refine box_step ?hg (N := 10) ?hd (cs := #[.int .i64 0, .int .i64 0, .int .u64 0]) (t := 38) ?hr ?_; (case hd => rfl); (case hg => rfl); (case hr => first | (go_simp; done) | (go_simp; rfl))
            intro gb137 hg w18 hbox hb
            have n0_ := Aside0.mk (below_step (by repeat (first | (with_reducible first | exact HB.out | apply below_alloc | apply pw_below_drewN | apply below_drew1) | exact HB.out)) hb)
            have n1_ := Aside0.mk (hbox)
            have n2_ := Aside0.mk ((by rw [hg]; exact (below_size (by repeat (first | (with_reducible first | exact HB.out | apply below_alloc | apply pw_below_drewN | apply below_drew1) | exact HB.out))) : w.heap.size ≤ gb137))
            have n3_ := Aside0.mk ((by rw [hg]; exact (below_size (by repeat (first | (with_reducible first | exact HB.out | apply below_alloc | apply pw_below_drewN | apply below_drew1) | exact HB.out))) : w.heap.size ≤ gb137))
            clear HB
            have HB := n0_
            have BK137 := n1_
            have GW137 := n2_
            have GE137 := n3_
            clear n0_ n1_ n2_ n3_
            clear hb hbox hg
            refine hK.out _ _ ⟨((HB.out.cell (World.block_lt_of_cell? w _ hw132_0)).trans hw132_0), ((HB.out.cell (World.block_lt_of_cell? w _ hw134_0)).trans hw134_0), ((HB.out.cell (World.block_lt_of_cell? w _ hw136_0)).trans hw136_0)⟩ (fun hHeld => ?_)
            clear hK K
            refine norm_ (a' := ?_) ?_ ?_
            rotate_left
            · show Act.put _ (some 10) _ = _
              simp only [Act.put, List.setIfInBounds_toArray, List.set_cons_zero, List.set_cons_succ, i64_w, i32_w]
              rfl
            refine one_ (i := 3) (N := some 41) #[true, true, true, true, false, true, true, true, false, false, true, true, true, false, true, false] rfl rfl (one_of HT_.out (by kernel_rfl)) (by decide) (fun K hK => ?_)
            refine goes_ Try.func31 (by kernel_rfl) rfl #[.int .u64 av, .int .i64 0, .int .i64 2] (by rfl) rfl rfl (by (try simp only [List.map_toArray, List.map_cons, List.map_nil]); first | done | rfl | (simp only [List.length_drop, List.length_take]; rfl)) ?_
            with_reducible refine (field_Get.calls av 0 2 t133 _ A12.out).mono ?_
            rintro e w' ⟨rfl, ⟨nd, rfl⟩⟩
            refine ⟨_, rfl, ?_⟩
            refine hK.out _ _ ⟨((HB.out.cell (World.block_lt_of_cell? w _ hw132_0)).trans hw132_0), ((HB.out.cell (World.block_lt_of_cell? w _ hw134_0)).trans hw134_0), ((HB.out.cell (World.block_lt_of_cell? w _ hw136_0)).trans hw136_0)⟩ (fun hHeld => ?_)
            clear hK K
            refine norm_ (a' := ?_) ?_ ?_
            rotate_left
            · show Act.put _ (some 41) _ = _
              simp only [Act.put, List.setIfInBounds_toArray, List.set_cons_zero, List.set_cons_succ, i64_w, i32_w]
              rfl
            refine pure_ (i := 4) (N := some 42) (v := ?_) (a' := ?_) #[true, true, true, true, true, true, true, true, false, false, true, true, true, false, true, false] rfl rfl (any_of HT_.out (by kernel_rfl)) (fun _ _ _ h => h) (Or.inl ⟨by rfl, ?_⟩) ?_ ?_
            rotate_left
            · intro w'
              go_simp
              with_reducible rfl
            rotate_left
            · simp only [Act.put, List.setIfInBounds_toArray, List.set_cons_zero, List.set_cons_succ, i64_w, i32_w]
              rfl
            refine one_ (i := 8) (N := some 46) #[true, true, true, true, true, true, true, true, true, false, true, true, true, false, true, false] rfl rfl (one_of HT_.out (by kernel_rfl)) (by decide) (fun K hK => ?_)
            refine goes_ Try.func31 (by kernel_rfl) rfl #[.int .u64 av, .int .i64 2, .int .i64 20] (by rfl) rfl rfl (by (try simp only [List.map_toArray, List.map_cons, List.map_nil]); first | done | rfl | (simp only [List.length_drop, List.length_take]; rfl)) ?_
            with_reducible refine (field_Get.calls av 2 20 t135 _ A13.out).mono ?_
            rintro e w' ⟨rfl, ⟨nd, rfl⟩⟩
            refine ⟨_, rfl, ?_⟩
            refine hK.out _ _ ⟨((HB.out.cell (World.block_lt_of_cell? w _ hw132_0)).trans hw132_0), ((HB.out.cell (World.block_lt_of_cell? w _ hw134_0)).trans hw134_0), ((HB.out.cell (World.block_lt_of_cell? w _ hw136_0)).trans hw136_0)⟩ (fun hHeld => ?_)
            clear hK K
            refine norm_ (a' := ?_) ?_ ?_
            rotate_left
            · show Act.put _ (some 46) _ = _
              simp only [Act.put, List.setIfInBounds_toArray, List.set_cons_zero, List.set_cons_succ, i64_w, i32_w]
              rfl
            refine pure_ (i := 9) (N := some 47) (v := ?_) (a' := ?_) #[true, true, true, true, true, true, true, true, true, true, true, true, true, false, true, false] rfl rfl (any_of HT_.out (by kernel_rfl)) (fun _ _ _ h => h) (Or.inl ⟨by rfl, ?_⟩) ?_ ?_
            rotate_left
            · intro w'
              go_simp
              with_reducible rfl
            rotate_left
            · simp only [Act.put, List.setIfInBounds_toArray, List.set_cons_zero, List.set_cons_succ, i64_w, i32_w]
              rfl
            refine pure_ (i := 13) (N := some 51) (v := ?_) (a' := ?_) #[true, true, true, true, true, true, true, true, true, true, true, true, true, true, true, false] rfl rfl (any_of HT_.out (by kernel_rfl)) (fun _ _ _ h => h) (Or.inl ⟨by rfl, ?_⟩) ?_ ?_
            rotate_left
            · intro w'
              go_simp
              with_reducible rfl
            rotate_left
            · simp only [Act.put, List.setIfInBounds_toArray, List.set_cons_zero, List.set_cons_succ, i64_w, i32_w]
              rfl
            exact norm_ (by simp only [putAll, Act.put, List.setIfInBounds_toArray, List.set_cons_zero, List.set_cons_succ]) (hCont (gb137) _ ⟨hHeld, (by (with_reducible repeat (first | refine blk_drewN ?_ _ | refine blk_drew ?_ | refine blk_alloc ?_ _)); exact BK137.out), GW137.out, GE137.out, (by repeat (first | (with_reducible first | exact HB.out | apply below_alloc | apply pw_below_drewN | apply below_drew1 | refine below_set ?_ GE137.out) | exact HB.out))⟩)
        rintro gb137 w19 ⟨hS_, h0_, h1_, h2_, h3_⟩
        have n0_ : Aside0 (w19.heap[gb137]? = some (.cells #[.int .i64 0, .int .i64 0, .int .u64 0] 38 (0, 0))) := ⟨h0_⟩
        have n1_ : Aside0 (w.heap.size ≤ gb137) := ⟨h1_⟩
        have n2_ : Aside0 (w.heap.size ≤ gb137) := ⟨h2_⟩
        have n3_ : Aside0 (Below w.heap.size w w19) := ⟨h3_⟩
        clear HB
        clear h0_ h1_ h2_ h3_
        have BK137 := n0_
        have GW137 := n1_
        have GE137 := n2_
        have HB := n3_
        clear n0_ n1_ n2_ n3_
        have hHeld : w19.cell? ad132 = some (.int .u64 av) ∧ w19.cell? ad132 = some (.int .u64 av) ∧ w19.cell? ⟨ad132.block, ad132.off + 1, none⟩ = some (.int .u64 bv) := hS_
        refine norm_ (a' := ?_) ?_ ?_
        rotate_left
        · simp only [putAll, Act.put, List.setIfInBounds_toArray, List.set_cons_zero, List.set_cons_succ]
          rfl
        refine one_ (i := 15) (N := none) #[true, true, true, true, true, true, true, true, true, true, true, true, true, true, true, true] rfl rfl (one_of HT_.out (by kernel_rfl)) (by decide) (fun K hK => ?_)
        have hs20 : w19.cell? ⟨gb137, 0, none⟩ = some (.int .i64 0) := (blk_cell BK137.out 0).trans rfl
        have hfs20 := blk_frozen BK137.out 0
        have hs21 : w19.cell? ⟨gb137, 1, none⟩ = some (.int .i64 0) := (blk_cell BK137.out 1).trans rfl
        have hfs21 := blk_frozen BK137.out 1
        have hs22 : w19.cell? ⟨gb137, 2, none⟩ = some (.int .u64 0) := (blk_cell BK137.out 2).trans rfl
        have hfs22 := blk_frozen BK137.out 2
        refine skip_ (w1 := ?_) (by rfl) rfl ?_ ?_
        rotate_left
        · go_simp
          rfl
        refine hK.out _ _ ⟨((cell_far (p := ⟨gb137, _, none⟩) (by first | exact Nat.ne_of_lt (Nat.lt_of_lt_of_le (by have := World.block_lt_of_cell? _ _ hw132_0; first | rwa [add_block] at this | exact this) GW137.out) | (rw [add_block]; exact Nat.ne_of_lt (Nat.lt_of_lt_of_le (by have := World.block_lt_of_cell? _ _ hw132_0; first | rwa [add_block] at this | exact this) GW137.out)) | (show (Addr.add _ _).block ≠ _; rw [add_block]; exact Nat.ne_of_lt (Nat.lt_of_lt_of_le (by have := World.block_lt_of_cell? _ _ hw132_0; first | rwa [add_block] at this | exact this) GW137.out)) | (dsimp only; exact Nat.ne_of_lt (Nat.lt_of_lt_of_le (by have := World.block_lt_of_cell? _ _ hw132_0; first | rwa [add_block] at this | exact this) GW137.out))) _).trans (((cell_far (p := ⟨gb137, _, none⟩) (by first | exact Nat.ne_of_lt (Nat.lt_of_lt_of_le (by have := World.block_lt_of_cell? _ _ hw132_0; first | rwa [add_block] at this | exact this) GW137.out) | (rw [add_block]; exact Nat.ne_of_lt (Nat.lt_of_lt_of_le (by have := World.block_lt_of_cell? _ _ hw132_0; first | rwa [add_block] at this | exact this) GW137.out)) | (show (Addr.add _ _).block ≠ _; rw [add_block]; exact Nat.ne_of_lt (Nat.lt_of_lt_of_le (by have := World.block_lt_of_cell? _ _ hw132_0; first | rwa [add_block] at this | exact this) GW137.out)) | (dsimp only; exact Nat.ne_of_lt (Nat.lt_of_lt_of_le (by have := World.block_lt_of_cell? _ _ hw132_0; first | rwa [add_block] at this | exact this) GW137.out))) _).trans (((cell_far (p := ⟨gb137, _, none⟩) (by first | exact Nat.ne_of_lt (Nat.lt_of_lt_of_le (by have := World.block_lt_of_cell? _ _ hw132_0; first | rwa [add_block] at this | exact this) GW137.out) | (rw [add_block]; exact Nat.ne_of_lt (Nat.lt_of_lt_of_le (by have := World.block_lt_of_cell? _ _ hw132_0; first | rwa [add_block] at this | exact this) GW137.out)) | (show (Addr.add _ _).block ≠ _; rw [add_block]; exact Nat.ne_of_lt (Nat.lt_of_lt_of_le (by have := World.block_lt_of_cell? _ _ hw132_0; first | rwa [add_block] at this | exact this) GW137.out)) | (dsimp only; exact Nat.ne_of_lt (Nat.lt_of_lt_of_le (by have := World.block_lt_of_cell? _ _ hw132_0; first | rwa [add_block] at this | exact this) GW137.out))) _).trans (hHeld.1)))))), ((cell_far (p := ⟨gb137, _, none⟩) (by first | exact Nat.ne_of_lt (Nat.lt_of_lt_of_le (by have := World.block_lt_of_cell? _ _ hw134_0; first | rwa [add_block] at this | exact this) GW137.out) | (rw [add_block]; exact Nat.ne_of_lt (Nat.lt_of_lt_of_le (by have := World.block_lt_of_cell? _ _ hw134_0; first | rwa [add_block] at this | exact this) GW137.out)) | (show (Addr.add _ _).block ≠ _; rw [add_block]; exact Nat.ne_of_lt (Nat.lt_of_lt_of_le (by have := World.block_lt_of_cell? _ _ hw134_0; first | rwa [add_block] at this | exact this) GW137.out)) | (dsimp only; exact Nat.ne_of_lt (Nat.lt_of_lt_of_le (by have := World.block_lt_of_cell? _ _ hw134_0; first | rwa [add_block] at this | exact this) GW137.out))) _).trans (((cell_far (p := ⟨gb137, _, none⟩) (by first | exact Nat.ne_of_lt (Nat.lt_of_lt_of_le (by have := World.block_lt_of_cell? _ _ hw134_0; first | rwa [add_block] at this | exact this) GW137.out) | (rw [add_block]; exact Nat.ne_of_lt (Nat.lt_of_lt_of_le (by have := World.block_lt_of_cell? _ _ hw134_0; first | rwa [add_block] at this | exact this) GW137.out)) | (show (Addr.add _ _).block ≠ _; rw [add_block]; exact Nat.ne_of_lt (Nat.lt_of_lt_of_le (by have := World.block_lt_of_cell? _ _ hw134_0; first | rwa [add_block] at this | exact this) GW137.out)) | (dsimp only; exact Nat.ne_of_lt (Nat.lt_of_lt_of_le (by have := World.block_lt_of_cell? _ _ hw134_0; first | rwa [add_block] at this | exact this) GW137.out))) _).trans (((cell_far (p := ⟨gb137, _, none⟩) (by first | exact Nat.ne_of_lt (Nat.lt_of_lt_of_le (by have := World.block_lt_of_cell? _ _ hw134_0; first | rwa [add_block] at this | exact this) GW137.out) | (rw [add_block]; exact Nat.ne_of_lt (Nat.lt_of_lt_of_le (by have := World.block_lt_of_cell? _ _ hw134_0; first | rwa [add_block] at this | exact this) GW137.out)) | (show (Addr.add _ _).block ≠ _; rw [add_block]; exact Nat.ne_of_lt (Nat.lt_of_lt_of_le (by have := World.block_lt_of_cell? _ _ hw134_0; first | rwa [add_block] at this | exact this) GW137.out)) | (dsimp only; exact Nat.ne_of_lt (Nat.lt_of_lt_of_le (by have := World.block_lt_of_cell? _ _ hw134_0; first | rwa [add_block] at this | exact this) GW137.out))) _).trans (hHeld.2.1)))))), ((cell_far (p := ⟨gb137, _, none⟩) (by first | exact Nat.ne_of_lt (Nat.lt_of_lt_of_le (by have := World.block_lt_of_cell? _ _ hw136_0; first | rwa [add_block] at this | exact this) GW137.out) | (rw [add_block]; exact Nat.ne_of_lt (Nat.lt_of_lt_of_le (by have := World.block_lt_of_cell? _ _ hw136_0; first | rwa [add_block] at this | exact this) GW137.out)) | (show (Addr.add _ _).block ≠ _; rw [add_block]; exact Nat.ne_of_lt (Nat.lt_of_lt_of_le (by have := World.block_lt_of_cell? _ _ hw136_0; first | rwa [add_block] at this | exact this) GW137.out)) | (dsimp only; exact Nat.ne_of_lt (Nat.lt_of_lt_of_le (by have := World.block_lt_of_cell? _ _ hw136_0; first | rwa [add_block] at this | exact this) GW137.out))) _).trans (((cell_far (p := ⟨gb137, _, none⟩) (by first | exact Nat.ne_of_lt (Nat.lt_of_lt_of_le (by have := World.block_lt_of_cell? _ _ hw136_0; first | rwa [add_block] at this | exact this) GW137.out) | (rw [add_block]; exact Nat.ne_of_lt (Nat.lt_of_lt_of_le (by have := World.block_lt_of_cell? _ _ hw136_0; first | rwa [add_block] at this | exact this) GW137.out)) | (show (Addr.add _ _).block ≠ _; rw [add_block]; exact Nat.ne_of_lt (Nat.lt_of_lt_of_le (by have := World.block_lt_of_cell? _ _ hw136_0; first | rwa [add_block] at this | exact this) GW137.out)) | (dsimp only; exact Nat.ne_of_lt (Nat.lt_of_lt_of_le (by have := World.block_lt_of_cell? _ _ hw136_0; first | rwa [add_block] at this | exact this) GW137.out))) _).trans (((cell_far (p := ⟨gb137, _, none⟩) (by first | exact Nat.ne_of_lt (Nat.lt_of_lt_of_le (by have := World.block_lt_of_cell? _ _ hw136_0; first | rwa [add_block] at this | exact this) GW137.out) | (rw [add_block]; exact Nat.ne_of_lt (Nat.lt_of_lt_of_le (by have := World.block_lt_of_cell? _ _ hw136_0; first | rwa [add_block] at this | exact this) GW137.out)) | (show (Addr.add _ _).block ≠ _; rw [add_block]; exact Nat.ne_of_lt (Nat.lt_of_lt_of_le (by have := World.block_lt_of_cell? _ _ hw136_0; first | rwa [add_block] at this | exact this) GW137.out)) | (dsimp only; exact Nat.ne_of_lt (Nat.lt_of_lt_of_le (by have := World.block_lt_of_cell? _ _ hw136_0; first | rwa [add_block] at this | exact this) GW137.out))) _).trans (hHeld.2.2))))))⟩ (fun hHeld => ?_)
        clear hK K
        refine done_ (done_of HT_.out (by kernel_rfl)) ?_
        try gi_wp2
        have n0_ : Aside0 ((((w19.setCell ⟨gb137, 0, none⟩ (.int .i64 (wrap64 (t133)))).setCell ⟨gb137, 1, none⟩ (.int .i64 (wrap64 (t135)))).setCell ⟨gb137, 2, none⟩ (.int .u64 bv)).heap[gb137]? = some (.cells #[.int .i64 (wrap64 (t133)), .int .i64 (wrap64 (t135)), .int .u64 bv] 38 (0, 0))) := ⟨by (with_reducible repeat (first | refine blk_drewN ?_ _ | refine blk_drew ?_ | refine blk_alloc ?_ _)); refine blk_put (cs := #[.int .i64 (wrap64 (t133)), .int .i64 (wrap64 (t135)), .int .u64 0]) ?_ 2 _ rfl; (with_reducible repeat (first | refine blk_drewN ?_ _ | refine blk_drew ?_ | refine blk_alloc ?_ _)); refine blk_put (cs := #[.int .i64 (wrap64 (t133)), .int .i64 0, .int .u64 0]) ?_ 1 _ rfl; (with_reducible repeat (first | refine blk_drewN ?_ _ | refine blk_drew ?_ | refine blk_alloc ?_ _)); refine blk_put (cs := #[.int .i64 0, .int .i64 0, .int .u64 0]) ?_ 0 _ rfl; (with_reducible repeat (first | refine blk_drewN ?_ _ | refine blk_drew ?_ | refine blk_alloc ?_ _)); exact BK137.out⟩
        have n1_ : Aside0 (Below w.heap.size w (((w19.setCell ⟨gb137, 0, none⟩ (.int .i64 (wrap64 (t133)))).setCell ⟨gb137, 1, none⟩ (.int .i64 (wrap64 (t135)))).setCell ⟨gb137, 2, none⟩ (.int .u64 bv))) := ⟨by repeat (first | (with_reducible first | exact HB.out | apply below_alloc | apply pw_below_drewN | apply below_drew1 | refine below_set ?_ GE137.out) | exact HB.out)⟩
        (try clear BK137)
        (try clear HB)
        generalize (((w19.setCell ⟨gb137, 0, none⟩ (.int .i64 (wrap64 (t133)))).setCell ⟨gb137, 1, none⟩ (.int .i64 (wrap64 (t135)))).setCell ⟨gb137, 2, none⟩ (.int .u64 bv)) = w23 at n0_ n1_ ⊢
        have BK137 := n0_
        have HB := n1_
        clear n0_ n1_
        have n0_ := Aside0.mk (blk_drew BK137.out)
        have n1_ := Aside0.mk (below_drew1 HB.out)
        clear BK137
        clear HB
        have BK137 := n0_
        have HB := n1_
        clear n0_ n1_
        cases t138 with
        | true =>
          refine startIn_ (n := 10) (S := fun w' => w'.cell? ⟨gb137, 0, none⟩ = some (.int .i64 (wrap64 (t133))) ∧ w'.cell? ⟨gb137, 1, none⟩ = some (.int .i64 (wrap64 (t135))) ∧ w'.cell? ⟨gb137, 2, none⟩ = some (.int .u64 bv)) (ds := []) #[false, false, false, false, false, false, false, false, false, false] (by kernel_rfl) rfl rfl (by kernel_rfl) (fun ⟨_, _, hq⟩ => hq) ⟨(blk_cell BK137.out 0).trans rfl, (blk_cell BK137.out 1).trans rfl, (blk_cell BK137.out 2).trans rfl⟩ (fun hHeld => ?_); refine with_tabW redo_Decode.tab10 redo_Decode.bits10 (fun HT_ HW_ => ?_)
          generalize w23.drew = w24 at BK137 HB hHeld ⊢
          refine take_ (i := 0) (N := some 52) (v := ?_) (a' := ?_) #[true, false, false, false, false, false, false, false, false, false] rfl rfl (take_ofW HT_.out HW_.out (by kernel_rfl)) (fun _ _ _ h => h) (Or.inl ⟨by rfl, ?_⟩) hHeld ?_ ?_
          rotate_left
          · rintro w' ⟨s0, s1, s2⟩
            go_simp
            with_reducible rfl
          rotate_left
          · simp only [Act.put, List.setIfInBounds_toArray, List.set_cons_zero, List.set_cons_succ, i64_w, i32_w]
            rfl
          refine one_ (i := 1) (N := some 53) #[true, true, false, false, false, false, false, false, false, false] rfl rfl (one_of HT_.out (by kernel_rfl)) (by decide) (fun K hK => ?_)
          refine goes_ Try.func28 (by kernel_rfl) rfl #[.agg #[.int .i64 (wrap64 (t133)), .int .i64 (wrap64 (t135)), .int .u64 bv]] (by rfl) rfl rfl (by (try simp only [List.map_toArray, List.map_cons, List.map_nil]); first | done | rfl | (simp only [List.length_drop, List.length_take]; rfl)) ?_
          with_reducible refine (redo_wrong.calls (wrap64 (t133)) (wrap64 (t135)) bv true _ A15.out).mono ?_
          rintro e w25 ⟨rfl, hb⟩
          refine ⟨_, rfl, ?_⟩
          have n0_ := Aside0.mk (blk_below (g := gb137) (o := .cells #[.int .i64 (wrap64 (t133)), .int .i64 (wrap64 (t135)), .int .u64 bv] 38 (0, 0)) (by (with_reducible repeat (first | refine blk_drewN ?_ _ | refine blk_drew ?_ | refine blk_alloc ?_ _)); exact BK137.out) hb)
          have n1_ := Aside0.mk (below_step (by repeat (first | (with_reducible first | exact HB.out | apply below_alloc | apply pw_below_drewN | apply below_drew1 | refine below_set ?_ GE137.out) | exact HB.out)) hb)
          clear BK137
          clear HB
          have BK137 := n0_
          have HB := n1_
          clear n0_ n1_
          (try clear hb)
          (try clear hb2)
          (try clear hk)
          (try clear hi)
          refine hK.out _ _ ⟨(blk_cell BK137.out 0).trans rfl, (blk_cell BK137.out 1).trans rfl, (blk_cell BK137.out 2).trans rfl⟩ (fun hHeld => ?_)
          clear hK K
          refine norm_ (a' := ?_) ?_ ?_
          rotate_left
          · show Act.put _ (some 53) _ = _
            simp only [Act.put, List.setIfInBounds_toArray, List.set_cons_zero, List.set_cons_succ, i64_w, i32_w]
            rfl
          refine pure_ (i := 2) (N := some 54) (v := ?_) (a' := ?_) #[true, true, true, false, false, false, false, false, false, false] rfl rfl (any_of HT_.out (by kernel_rfl)) (fun _ _ _ h => h) (Or.inl ⟨by rfl, ?_⟩) ?_ ?_
          rotate_left
          · intro w'
            go_simp
            with_reducible rfl
          rotate_left
          · simp only [Act.put, List.setIfInBounds_toArray, List.set_cons_zero, List.set_cons_succ, i64_w, i32_w]
            rfl
          refine pure_ (i := 3) (N := some 55) (v := undef) (a' := ?_) #[true, true, true, true, false, false, false, false, false, false] rfl rfl (any_of HT_.out (by kernel_rfl)) (fun _ _ _ h => h) (Or.inr ⟨by rfl, rfl⟩) ?_ ?_
          rotate_left
          · simp only [Act.put, List.setIfInBounds_toArray, List.set_cons_zero, List.set_cons_succ, i64_w, i32_w]
            rfl
          refine pure_ (i := 4) (N := some 56) (v := undef) (a' := ?_) #[true, true, true, true, true, false, false, false, false, false] rfl rfl (any_of HT_.out (by kernel_rfl)) (fun _ _ _ h => h) (Or.inr ⟨by rfl, rfl⟩) ?_ ?_
          rotate_left
          · simp only [Act.put, List.setIfInBounds_toArray, List.set_cons_zero, List.set_cons_succ, i64_w, i32_w]
            rfl
          refine pure_ (i := 5) (N := some 57) (v := undef) (a' := ?_) #[true, true, true, true, true, true, false, false, false, false] rfl rfl (any_of HT_.out (by kernel_rfl)) (fun _ _ _ h => h) (Or.inr ⟨by rfl, rfl⟩) ?_ ?_
          rotate_left
          · simp only [Act.put, List.setIfInBounds_toArray, List.set_cons_zero, List.set_cons_succ, i64_w, i32_w]
            rfl
          refine pure_ (i := 6) (N := some 58) (v := undef) (a' := ?_) #[true, true, true, true, true, true, true, false, false, false] rfl rfl (any_of HT_.out (by kernel_rfl)) (fun _ _ _ h => h) (Or.inr ⟨by rfl, rfl⟩) ?_ ?_
          rotate_left
          · simp only [Act.put, List.setIfInBounds_toArray, List.set_cons_zero, List.set_cons_succ, i64_w, i32_w]
            rfl
          refine pure_ (i := 7) (N := some 59) (v := undef) (a' := ?_) #[true, true, true, true, true, true, true, true, false, false] rfl rfl (any_of HT_.out (by kernel_rfl)) (fun _ _ _ h => h) (Or.inr ⟨by rfl, rfl⟩) ?_ ?_
          rotate_left
          · simp only [Act.put, List.setIfInBounds_toArray, List.set_cons_zero, List.set_cons_succ, i64_w, i32_w]
            rfl
          refine pure_ (i := 8) (N := some 60) (v := undef) (a' := ?_) #[true, true, true, true, true, true, true, true, true, false] rfl rfl (any_of HT_.out (by kernel_rfl)) (fun _ _ _ h => h) (Or.inr ⟨by rfl, rfl⟩) ?_ ?_
          rotate_left
          · simp only [Act.put, List.setIfInBounds_toArray, List.set_cons_zero, List.set_cons_succ, i64_w, i32_w]
            rfl
          refine pure_ (i := 9) (N := some 61) (v := ?_) (a' := ?_) #[true, true, true, true, true, true, true, true, true, true] rfl rfl (any_of HT_.out (by kernel_rfl)) (fun _ _ _ h => h) (Or.inl ⟨by rfl, ?_⟩) ?_ ?_
          rotate_left
          · intro w'
            go_simp
            with_reducible rfl
          rotate_left
          · simp only [Act.put, List.setIfInBounds_toArray, List.set_cons_zero, List.set_cons_succ, i64_w, i32_w]
            rfl
          refine done_ (done_of HT_.out (by kernel_rfl)) ?_
          have hkw1 : Boxed w w0.heap.size 22 (.slice none 0 0) := (HBI.out.block _ hq1.lt).trans hq1
          have hkw2 : Boxed w (w0.heap.size + 1) 4 (.bool false) := (HBI.out.block _ hq2.lt).trans hq2
          have hk1 : Boxed _ w0.heap.size 22 (.slice none 0 0) := (HB.out.block _ hkw1.lt).trans hkw1
          have hk2 : Boxed _ (w0.heap.size + 1) 4 (.bool false) := (HB.out.block _ hkw2.lt).trans hkw2
          have hBw := (hB1.trans (HBI.out.mono hB1.size)).trans (HB.out.mono (by have := HBI.out.size; have := hB1.size; omega))
          have hc1 := hk1.cell
          have hf1 := hk1.frozen
          have hc2 := hk2.cell
          have hf2 := hk2.frozen
          have hKO := keeps_below HB.out
          have hG := HG.out
          rw [if_pos rfl] at hG
          injection hG with hG; injection hG with hG1 hG2
          subst hG1; subst hG2
          gi_wp2
          exact ⟨((hKO.trans (KeepsOthers.setCell _ _ _)).trans (KeepsOthers.setCell _ _ _)).from _, ⟨by simp, (hk1.set _).kept (grownBy_setCell' _ _ _) (by simp), (hk2.kept (grownBy_setCell' _ _ _) (by simp)).set _⟩, (hBw.setCell (p := ⟨w0.heap.size, 0, none⟩) (Nat.le_refl _) _).setCell (p := ⟨w0.heap.size + 1, 0, none⟩) (by simp) _⟩
        | false =>
          have hG := HG.out
          rw [if_neg (by decide)] at hG
          obtain ⟨t139, A26, hG⟩ := Option.bind_eq_some_iff.mp hG
          replace A26 := Aside0.mk A26
          replace HG := Aside0.mk hG
          clear hG
          have hw140_0 := hw132_0
          have hx140_0 := (HB.out.cell (World.block_lt_of_cell? w _ hw140_0)).trans hw140_0
          refine startIn_ (n := 10) (S := fun w' => w'.cell? ⟨gb137, 0, none⟩ = some (.int .i64 (wrap64 (t133))) ∧ w'.cell? ⟨gb137, 1, none⟩ = some (.int .i64 (wrap64 (t135))) ∧ w'.cell? ⟨gb137, 2, none⟩ = some (.int .u64 bv) ∧ w'.cell? ad132 = some (.int .u64 av)) (ds := []) #[false, false, false, false, false, false, false, false, false, false] (by kernel_rfl) rfl rfl (by kernel_rfl) (fun ⟨_, _, hq⟩ => hq) ⟨(blk_cell BK137.out 0).trans rfl, (blk_cell BK137.out 1).trans rfl, (blk_cell BK137.out 2).trans rfl, ((HB.out.cell (World.block_lt_of_cell? w _ hw140_0)).trans hw140_0)⟩ (fun hHeld => ?_); refine with_tabW redo_Decode.tab10 redo_Decode.bits10 (fun HT_ HW_ => ?_)
          generalize w23.drew = w24 at BK137 HB hx140_0 hHeld ⊢
          refine take_ (i := 0) (N := some 52) (v := ?_) (a' := ?_) #[true, false, false, false, false, false, false, false, false, false] rfl rfl (take_ofW HT_.out HW_.out (by kernel_rfl)) (fun _ _ _ h => h) (Or.inl ⟨by rfl, ?_⟩) hHeld ?_ ?_
          rotate_left
          · rintro w' ⟨s0, s1, s2, s3⟩
            go_simp
            with_reducible rfl
          rotate_left
          · simp only [Act.put, List.setIfInBounds_toArray, List.set_cons_zero, List.set_cons_succ, i64_w, i32_w]
            rfl
          refine one_ (i := 1) (N := some 53) #[true, true, false, false, false, false, false, false, false, false] rfl rfl (one_of HT_.out (by kernel_rfl)) (by decide) (fun K hK => ?_)
          refine goes_ Try.func28 (by kernel_rfl) rfl #[.agg #[.int .i64 (wrap64 (t133)), .int .i64 (wrap64 (t135)), .int .u64 bv]] (by rfl) rfl rfl (by (try simp only [List.map_toArray, List.map_cons, List.map_nil]); first | done | rfl | (simp only [List.length_drop, List.length_take]; rfl)) ?_
          with_reducible refine (redo_wrong.calls (wrap64 (t133)) (wrap64 (t135)) bv false _ A15.out).mono ?_
          rintro e w35 ⟨rfl, hb⟩
          refine ⟨_, rfl, ?_⟩
          have n0_ := Aside0.mk (blk_below (g := gb137) (o := .cells #[.int .i64 (wrap64 (t133)), .int .i64 (wrap64 (t135)), .int .u64 bv] 38 (0, 0)) (by (with_reducible repeat (first | refine blk_drewN ?_ _ | refine blk_drew ?_ | refine blk_alloc ?_ _)); exact BK137.out) hb)
          have n1_ := Aside0.mk (below_step (by repeat (first | (with_reducible first | exact HB.out | apply below_alloc | apply pw_below_drewN | apply below_drew1 | refine below_set ?_ GE137.out) | exact HB.out)) hb)
          clear BK137
          clear HB
          have BK137 := n0_
          have HB := n1_
          clear n0_ n1_
          (try clear hb)
          (try clear hb2)
          (try clear hk)
          (try clear hi)
          refine hK.out _ _ ⟨(blk_cell BK137.out 0).trans rfl, (blk_cell BK137.out 1).trans rfl, (blk_cell BK137.out 2).trans rfl, ((HB.out.cell (World.block_lt_of_cell? w _ hw140_0)).trans hw140_0)⟩ (fun hHeld => ?_)
          clear hK K
          refine norm_ (a' := ?_) ?_ ?_
          rotate_left
          · show Act.put _ (some 53) _ = _
            simp only [Act.put, List.setIfInBounds_toArray, List.set_cons_zero, List.set_cons_succ, i64_w, i32_w]
            rfl
          refine pure_ (i := 2) (N := some 54) (v := ?_) (a' := ?_) #[true, true, true, false, false, false, false, false, false, false] rfl rfl (any_of HT_.out (by kernel_rfl)) (fun _ _ _ h => h) (Or.inl ⟨by rfl, ?_⟩) ?_ ?_
          rotate_left
          · intro w'
            go_simp
            with_reducible rfl
          rotate_left
          · simp only [Act.put, List.setIfInBounds_toArray, List.set_cons_zero, List.set_cons_succ, i64_w, i32_w]
            rfl
          refine pure_ (i := 5) (N := some 57) (v := ?_) (a' := ?_) #[true, true, true, false, false, true, false, false, false, false] rfl rfl (any_of HT_.out (by kernel_rfl)) (fun _ _ _ h => h) (Or.inl ⟨by rfl, ?_⟩) ?_ ?_
          rotate_left
          · intro w'
            go_simp
            with_reducible rfl
          rotate_left
          · simp only [Act.put, List.setIfInBounds_toArray, List.set_cons_zero, List.set_cons_succ, i64_w, i32_w]
            rfl
          refine pure_ (i := 6) (N := some 58) (v := ?_) (a' := ?_) #[true, true, true, false, false, true, true, false, false, false] rfl rfl (any_of HT_.out (by kernel_rfl)) (fun _ _ _ h => h) (Or.inl ⟨by rfl, ?_⟩) ?_ ?_
          rotate_left
          · intro w'
            go_simp
            with_reducible rfl
          rotate_left
          · simp only [Act.put, List.setIfInBounds_toArray, List.set_cons_zero, List.set_cons_succ, i64_w, i32_w]
            rfl
          refine take_ (i := 3) (N := some 55) (v := ?_) (a' := ?_) #[true, true, true, true, false, true, true, false, false, false] rfl rfl (take_ofW HT_.out HW_.out (by kernel_rfl)) (fun _ _ _ h => h) (Or.inl ⟨by rfl, ?_⟩) hHeld ?_ ?_
          rotate_left
          · rintro w' ⟨s0, s1, s2, s3⟩
            go_simp
            with_reducible rfl
          rotate_left
          · simp only [Act.put, List.setIfInBounds_toArray, List.set_cons_zero, List.set_cons_succ, i64_w, i32_w]
            rfl
          refine take_ (i := 7) (N := some 59) (v := ?_) (a' := ?_) #[true, true, true, true, false, true, true, true, false, false] rfl rfl (take_ofW HT_.out HW_.out (by kernel_rfl)) (fun _ _ _ h => h) (Or.inl ⟨by rfl, ?_⟩) hHeld ?_ ?_
          rotate_left
          · rintro w' ⟨s0, s1, s2, s3⟩
            go_simp
            with_reducible rfl
          rotate_left
          · simp only [Act.put, List.setIfInBounds_toArray, List.set_cons_zero, List.set_cons_succ, i64_w, i32_w]
            rfl
          refine one_ (i := 4) (N := some 56) #[true, true, true, true, true, true, true, true, false, false] rfl rfl (one_of HT_.out (by kernel_rfl)) (by decide) (fun K hK => ?_)
          refine goes_ Try.func24 (by kernel_rfl) rfl #[.agg #[.int .i64 (wrap64 (t133)), .int .i64 (wrap64 (t135)), .int .u64 bv]] (by rfl) rfl rfl (by (try simp only [List.map_toArray, List.map_cons, List.map_nil]); first | done | rfl | (simp only [List.length_drop, List.length_take]; rfl)) ?_
          with_reducible refine (redo_first.calls (wrap64 (t133)) (wrap64 (t135)) bv t139 _ A26.out).mono ?_
          rintro e w36 ⟨rfl, hb⟩
          refine ⟨_, rfl, ?_⟩
          have n0_ := Aside0.mk (blk_below (g := gb137) (o := .cells #[.int .i64 (wrap64 (t133)), .int .i64 (wrap64 (t135)), .int .u64 bv] 38 (0, 0)) (by (with_reducible repeat (first | refine blk_drewN ?_ _ | refine blk_drew ?_ | refine blk_alloc ?_ _)); exact BK137.out) hb)
          have n1_ := Aside0.mk (below_step (by repeat (first | (with_reducible first | exact HB.out | apply below_alloc | apply pw_below_drewN | apply below_drew1 | refine below_set ?_ GE137.out) | exact HB.out)) hb)
          clear BK137
          clear HB
          have BK137 := n0_
          have HB := n1_
          clear n0_ n1_
          (try clear hb)
          (try clear hb2)
          (try clear hk)
          (try clear hi)
          refine hK.out _ _ ⟨(blk_cell BK137.out 0).trans rfl, (blk_cell BK137.out 1).trans rfl, (blk_cell BK137.out 2).trans rfl, ((HB.out.cell (World.block_lt_of_cell? w _ hw140_0)).trans hw140_0)⟩ (fun hHeld => ?_)
          clear hK K
          refine norm_ (a' := ?_) ?_ ?_
          rotate_left
          · show Act.put _ (some 56) _ = _
            simp only [Act.put, List.setIfInBounds_toArray, List.set_cons_zero, List.set_cons_succ, i64_w, i32_w]
            rfl
          refine pure_ (i := 8) (N := some 60) (v := ?_) (a' := ?_) #[true, true, true, true, true, true, true, true, true, false] rfl rfl (any_of HT_.out (by kernel_rfl)) (fun _ _ _ h => h) (Or.inl ⟨by rfl, ?_⟩) ?_ ?_
          rotate_left
          · intro w'
            go_simp
            with_reducible rfl
          rotate_left
          · simp only [Act.put, List.setIfInBounds_toArray, List.set_cons_zero, List.set_cons_succ, i64_w, i32_w]
            rfl
          refine pure_ (i := 9) (N := some 61) (v := ?_) (a' := ?_) #[true, true, true, true, true, true, true, true, true, true] rfl rfl (any_of HT_.out (by kernel_rfl)) (fun _ _ _ h => h) (Or.inl ⟨by rfl, ?_⟩) ?_ ?_
          rotate_left
          · intro w'
            go_simp
            with_reducible rfl
          rotate_left
          · simp only [Act.put, List.setIfInBounds_toArray, List.set_cons_zero, List.set_cons_succ, i64_w, i32_w]
            rfl
          refine done_ (done_of HT_.out (by kernel_rfl)) ?_
          cases hbq : (t139 != av) with
          | true =>
            have hkw1 : Boxed w w0.heap.size 22 (.slice none 0 0) := (HBI.out.block _ hq1.lt).trans hq1
            have hkw2 : Boxed w (w0.heap.size + 1) 4 (.bool false) := (HBI.out.block _ hq2.lt).trans hq2
            have hk1 : Boxed _ w0.heap.size 22 (.slice none 0 0) := (HB.out.block _ hkw1.lt).trans hkw1
            have hk2 : Boxed _ (w0.heap.size + 1) 4 (.bool false) := (HB.out.block _ hkw2.lt).trans hkw2
            have hBw := (hB1.trans (HBI.out.mono hB1.size)).trans (HB.out.mono (by have := HBI.out.size; have := hB1.size; omega))
            have hc1 := hk1.cell
            have hf1 := hk1.frozen
            have hc2 := hk2.cell
            have hf2 := hk2.frozen
            have hKO := keeps_below HB.out
            have hG := HG.out
            rw [hbq, if_pos rfl] at hG
            injection hG with hG; injection hG with hG1 hG2
            subst hG1; subst hG2
            gi_wp2
            exact ⟨((hKO.trans (KeepsOthers.setCell _ _ _)).trans (KeepsOthers.setCell _ _ _)).from _, ⟨by simp, (hk1.set _).kept (grownBy_setCell' _ _ _) (by simp), (hk2.kept (grownBy_setCell' _ _ _) (by simp)).set _⟩, (hBw.setCell (p := ⟨w0.heap.size, 0, none⟩) (Nat.le_refl _) _).setCell (p := ⟨w0.heap.size + 1, 0, none⟩) (by simp) _⟩
          | false =>
            have hG := HG.out
            rw [hbq, if_neg (by decide)] at hG
            replace HG := Aside0.mk hG
            clear hG
            have hv : Boxed _ w1.heap.size 22 v := (HB.out.block _ HV.out.lt).trans HV.out
            have hrow := pw_own_below HROW.out HB.out
            have hvS : Boxed _ (w1.heap.size + 1) 24 (.slice (some ad) (2 * m) co) := (HB.out.block _ HVS.out.lt).trans HVS.out
            have hvN : Boxed _ (w1.heap.size + 1 + 1) 3 (.int .i64 2) := (HB.out.block _ HVN.out.lt).trans HVN.out
            have hBI' := HBI.out.trans (HB.out.mono HBI.out.size)
            have hKO := keeps_below HB.out
            have hc := hv.cell
            obtain ⟨i0, hi, hz0, hz1, hz2⟩ := info_parts info38
            have hsI := hBI'.size
            gi_wp2_with (gi_at_builtin; refine wpListIn_append_own _ rfl _ _ 22 rfl w1.heap.size 38 i0 (.agg #[.int .i64 0, .int .i64 0, .int .u64 0]) 3 24 Try.underlying22 hi hz0 hz1 hz2 rfl (by decide) _ _ _ rfl (hrow.alloc _) ⟨w36.heap.size, 0, none⟩ 1 1 [.int .i64 (wrap64 t133), .int .i64 (wrap64 t135), .int .u64 bv] rfl rfl (cell_three_new _ _ _ _ _) (by simp [Value.oneCell']) (by simp only [maxLen]; omega) (by omega) (by simp; omega) ?_; intro v' wE hown' hgrow _; obtain ⟨g', cap', rfl⟩ := ownsRow_succ hown'; obtain ⟨hv1, hv2, hr2, hk2, hb2⟩ := hv.appended (by decide) hrow hsI (Nat.le_refl _) hown' hgrow; have hc1 := hv1.cell; have hf1 := hv1.frozen)
            have hvS' := ((hvS.alloc _).kept hgrow (hvS.not_row (by decide) hrow)).kept (grownBy_setCell' wE w1.heap.size (.slice (some ⟨g', 0, none⟩) (pre.length + 1) cap')) (by simp)
            have hvN' := ((hvN.alloc _).kept hgrow (hvN.not_row (by decide) hrow)).kept (grownBy_setCell' wE w1.heap.size (.slice (some ⟨g', 0, none⟩) (pre.length + 1) cap')) (by simp; omega)
            have hops : opsAt o1 (pre ++ [pre.length]) = opsAt o1 pre ++ [⟨wrap64 t133, wrap64 t135, bv⟩] := by simp [opsAt, Hop.out]
            refine ⟨(hKO.trans hk2).from _, ⟨fun u hu => ?_, fun u hu => ?_⟩, ⟨⟨_, hv2, ?_, ?_⟩, hvS', hvN'⟩, hBI'.trans hb2⟩
            · have e1 := HVS.out.cell
              rw [e1] at hu; injection hu with hu; subst hu
              exact hvS'.cell
            · have e1 := HVN.out.cell
              rw [e1] at hu; injection hu with hu; subst hu
              exact hvN'.cell
            · rw [hops, List.flatMap_append, List.length_append]
              exact hr2
            · rw [hops, List.length_append]
              exact HG.out
      case done =>
        rintro D ys W0 W hD rfl ⟨⟨⟨v, hv, hrow, hG⟩, hv2, hv3⟩, hB⟩ hK
        rw [List.length_range, List.drop_eq_nil_of_le (by omega)] at hG
        injection hG with hG; injection hG with hG1 hG2
        subst hG1; subst hG2
        have hk1 : Boxed W w0.heap.size 22 (.slice none 0 0) := (hB.block _ hq1.lt).trans hq1
        have hk2 : Boxed W (w0.heap.size + 1) 4 (.bool false) := (hB.block _ hq2.lt).trans hq2
        simp only [List.length_range] at hrow
        obtain ⟨Av, cv, rfl⟩ := own_slice hrow
        have hsz1 := hB1.size
        have hc := hv.cell
        have hc1 := hk1.cell
        have hf1 := hk1.frozen
        have hc2 := hk2.cell
        have hf2 := hk2.frozen
        gi_wp2
        have hm1 := (hk1.set (.slice Av m cv)).kept (grownBy_setCell' (W.setCell ⟨w0.heap.size, 0, none⟩ (.slice Av m cv)) (w0.heap.size + 1) (.bool true)) (by simp)
        have hm2 := (hk2.kept (grownBy_setCell' W w0.heap.size (.slice Av m cv)) (by simp)).set (.bool true)
        have hK' := (KeepsOthers.setCell (W.setCell ⟨w0.heap.size, 0, none⟩ (.slice Av m cv)) ⟨w0.heap.size + 1, 0, none⟩ (.bool true)).same D _ ((KeepsOthers.setCell W ⟨w0.heap.size, 0, none⟩ (.slice Av m cv)).same D _ hK rfl) rfl
        have hro : ((W.setCell ⟨w0.heap.size, 0, none⟩ (.slice Av m cv)).setCell ⟨w0.heap.size + 1, 0, none⟩ (.bool true)).ownsRow w1.heap.size 38 3 (.slice Av m cv) m ((opsAt o1 (List.range m)).flatMap c38) :=
          own_setCell (own_setCell hrow (hk1.not_row (by decide) hrow) _) ((hk2.kept (grownBy_setCell' W w0.heap.size (.slice Av m cv)) (by simp)).not_row (by decide) (own_setCell hrow (hk1.not_row (by decide) hrow) _)) _
        have hBw : Below w0.heap.size w0 ((W.setCell ⟨w0.heap.size, 0, none⟩ (.slice Av m cv)).setCell ⟨w0.heap.size + 1, 0, none⟩ (.bool true)) :=
          ((hB1.trans (hB.mono hB1.size)).setCell (p := ⟨w0.heap.size, 0, none⟩) (Nat.le_refl _) _).setCell (p := ⟨w0.heap.size + 1, 0, none⟩) (by simp) _
        refine ⟨by simp, .inl ⟨_, _, rfl, run_takeDeferred hK', ?_⟩⟩
        refine ⟨_, redo_Decode.fin _ _ _ _ _ _ (hm1.kept (grownBy_putObj' _ D _) (by simp; omega)) (hm2.kept (grownBy_putObj' _ D _) (by simp; omega)) rfl rfl, _, rfl, ?_, hBw.trans (belowK_b (w := w0) (Nat.le_refl _) _ D _ _ (by omega) hK' rfl rfl)⟩
        exact Kd.R_lower (R_of_own38 _ (by rw [show (opsAt o1 (List.range m)).length = m by simp [opsAt]]; exact ownsRow_putObj hro _ hK' rfl)) (by omega)
      case stop =>
        rintro D c pre W0 W hD - ⟨⟨⟨rfl, rfl, rfl⟩, hk1, hk2⟩, hB⟩ hK
        have hsz1 := hB1.size
        gi_wp2
        refine ⟨by simp, .inl ⟨_, _, rfl, run_takeDeferred hK, ?_⟩⟩
        exact ⟨_, redo_Decode.fin _ _ _ _ _ _ (hk1.kept (grownBy_putObj' _ D _) (by simp; omega)) (hk2.kept (grownBy_putObj' _ D _) (by simp; omega)) rfl rfl, _, rfl, Kd.R_nil _ _ _ _ _, hB.trans (belowK_b (w := w0) (Nat.le_refl _) _ D _ _ (by omega) hK rfl rfl)⟩
    · rw [if_neg hol] at h
      cases h
theorem redo_Decode.calls (A0 : Option Addr) (c0 : Nat) (l0 : List Int) (a1 : Int) (r1 : List S38) (r2 : Bool) (w : World) (hr0 : Kd.C (Kd.int .u64) w A0 l0.length l0) (hc0 : l0.length ≤ c0) (h : redo_Decode.f l0 a1 = some (r1, r2)) :
    Calls Try.prog 14 #[.slice A0 l0.length c0, .int .i64 a1] w fun e w' => ∃ v0_ : Value, e = .returned (.tuple #[v0_, .bool r2]) ∧ Kd.R k38 38 w' w.heap.size (fun _ => True) v0_ r1 ∧ Below w.heap.size w w' :=
  callsIn_wide.1 (redo_Decode.in_ A0 c0 l0 a1 r1 r2 w hr0 hc0 h)

end Go.Proofs.Ytnoclgnlmkpkbaa.PRedoApart
