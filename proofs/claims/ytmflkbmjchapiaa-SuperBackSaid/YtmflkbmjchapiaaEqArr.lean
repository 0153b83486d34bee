/- '==' of two arrays of eight whole numbers: item by item, as one Bool. -/
import Derived.Test.YtmflkbmjchapiaaWWords
import Derived.Test.YtmflkbmjchapiaaProg
import Derived.ChangeKeysEq
import Derived.Laws.StructEq
import Derived.WalkKit
namespace Go.Proofs.YtmflkbmjchapiaaX
open Go.RowKit
section
variable {P : Program} {d c : Nat} {e : TypeId} {xs ys : Array Value} {i : Nat} {is : List Nat} {a b : Value} {r s : Bool} {w : World}
theorem eqi_nil : (Op.eqItems d e c xs ys []).run P w = .ok true w := by simp [Op.eqItems]
theorem eqi_cons (ha : (part e xs (i * c)).run P w = .ok a w) (hb : (part e ys (i * c)).run P w = .ok b w) (he : (Op.equalIn d e a b).run P w = .ok r w) (hr : (Op.eqItems d e c xs ys is).run P w = .ok s w) : (Op.eqItems d e c xs ys (i :: is)).run P w = .ok (r && s) w := by
  rw [Op.eqItems]
  simp only [Sem.run_bind, ha, hb, he, Result.andThen_ok]
  cases r
  · simp
  · simpa using hr
end
theorem eqA58 (d : Nat) (w : World) (x0 y0 : Int) (x1 y1 : Int) (x2 y2 : Int) (x3 y3 : Int) (x4 y4 : Int) (x5 y5 : Int) (x6 y6 : Int) (x7 y7 : Int) :
    (Op.equalIn (d + 2) 58 (.agg #[.int .u64 x0, .int .u64 x1, .int .u64 x2, .int .u64 x3, .int .u64 x4, .int .u64 x5, .int .u64 x6, .int .u64 x7]) (.agg #[.int .u64 y0, .int .u64 y1, .int .u64 y2, .int .u64 y3, .int .u64 y4, .int .u64 y5, .int .u64 y6, .int .u64 y7])).run Try.prog w = .ok (x0 == y0 && (x1 == y1 && (x2 == y2 && (x3 == y3 && (x4 == y4 && (x5 == y5 && (x6 == y6 && (x7 == y7)))))))) w := by
  obtain ⟨i, hi⟩ : ∃ i, Try.prog.info? 30 = some i := by
    have h : (Try.prog.info? 30).isSome = true := by kernel_rfl
    exact Option.isSome_iff_exists.mp h
  rw [run_equalIn_array (P := Try.prog) (w := w) (d + 1) _ _ Try.underlying58 hi, show Try.prog.cellsOf 30 = 1 from by kernel_rfl, show List.range 8 = [0, 1, 2, 3, 4, 5, 6, 7] from rfl]
  rw [show (x0 == y0 && (x1 == y1 && (x2 == y2 && (x3 == y3 && (x4 == y4 && (x5 == y5 && (x6 == y6 && (x7 == y7)))))))) = (x0 == y0 && (x1 == y1 && (x2 == y2 && (x3 == y3 && (x4 == y4 && (x5 == y5 && (x6 == y6 && ((x7 == y7) && true)))))))) by rw [Bool.and_true]]
  refine eqi_cons (by go_simp; rfl) (by go_simp; rfl) (by go_simp) ?_
  refine eqi_cons (by go_simp; rfl) (by go_simp; rfl) (by go_simp) ?_
  refine eqi_cons (by go_simp; rfl) (by go_simp; rfl) (by go_simp) ?_
  refine eqi_cons (by go_simp; rfl) (by go_simp; rfl) (by go_simp) ?_
  refine eqi_cons (by go_simp; rfl) (by go_simp; rfl) (by go_simp) ?_
  refine eqi_cons (by go_simp; rfl) (by go_simp; rfl) (by go_simp) ?_
  refine eqi_cons (by go_simp; rfl) (by go_simp; rfl) (by go_simp) ?_
  exact eqi_cons (by go_simp; rfl) (by go_simp; rfl) (by go_simp) eqi_nil
end Go.Proofs.YtmflkbmjchapiaaX
