/- A slice of operations, or of tools, that can be read as data reads as a list of records. -/
import Derived.Test.YtlhfafklpchihaaDoorOpens
import Derived.Test.YtlhfafklpchihaaDoorMAllx
import Derived.KernelRfl
namespace Go.Proofs.YtlhfafklpchihaaDoor.MAll
open Go.RowKit Go.Proofs.YtlhfafklpchihaaDoorW.PrintWords Go.Proofs.YtlhfafklpchihaaDoorW.PrintLast Go.Proofs.YtlhfafklpchihaaDoorW.PrintMore
theorem laidOut : laidOutB Tryd.prog = true := by kernel_rfl
theorem wf64 {n : Int} (h : (Lit.int .i64 n).wf = true) : in64 n := by
  unfold Lit.wf at h
  rw [Bool.and_eq_true] at h
  exact ⟨of_decide_eq_true h.1, of_decide_eq_true h.2⟩
theorem cells3 : Tryd.prog.cellsOf 3 = 1 := by kernel_rfl
theorem cells2 : Tryd.prog.cellsOf 2 = 1 := by kernel_rfl
theorem cells23 : Tryd.prog.cellsOf 23 = 1 := by kernel_rfl
theorem opens37 : Opens Tryd.prog 37 k37 OkOp := by
  have h := opens_iso (f := fun x : S37 => (x.f0, x.f1, x.f2, x.f3, x.f4)) (fun t : Int × Int × Int × List Int × Int => (⟨t.1, t.2.1, t.2.2.1, t.2.2.2.1, t.2.2.2.2⟩ : S37)) (fun _ => rfl)
    (opens_struct Tryd.underlying37 (n := 5) (by kernel_rfl)
      (opensF_cons (opens_int Tryd.underlying3) (by rw [cells3]) (opensF_cons (opens_int Tryd.underlying3) (by rw [cells3]) (opensF_cons (opens_int Tryd.underlying3) (by rw [cells3])
        (opensF_cons (opens_slice Tryd.underlying23 cells2 (opens_int Tryd.underlying2)) (by rw [cells23]) (opensF_one (opens_int Tryd.underlying2) (by rw [cells2])))))))
  exact h.imp (fun x h => ⟨wf64 h.1, wf64 h.2.1, wf64 h.2.2.1, wf64 h.2.2.2.2, fun d hd => wf64 (h.2.2.2.1 d hd)⟩)
theorem opens46 : Opens Tryd.prog 46 k46 (fun _ => True) := by
  have h := opens_iso (f := fun x : S46 => (x.f0, x.f1, x.f2, x.f3, x.f4, x.f5, x.f6, x.f7)) (fun t : Int × Int × Int × Int × Int × Int × Int × Int => (⟨t.1, t.2.1, t.2.2.1, t.2.2.2.1, t.2.2.2.2.1, t.2.2.2.2.2.1, t.2.2.2.2.2.2.1, t.2.2.2.2.2.2.2⟩ : S46)) (fun _ => rfl)
    (opens_struct Tryd.underlying46 (n := 8) (by kernel_rfl)
      (opensF_cons (opens_int Tryd.underlying3) (by rw [cells3]) (opensF_cons (opens_int Tryd.underlying3) (by rw [cells3]) (opensF_cons (opens_int Tryd.underlying2) (by rw [cells2])
        (opensF_cons (opens_int Tryd.underlying2) (by rw [cells2]) (opensF_cons (opens_int Tryd.underlying2) (by rw [cells2]) (opensF_cons (opens_int Tryd.underlying2) (by rw [cells2])
          (opensF_cons (opens_int Tryd.underlying2) (by rw [cells2]) (opensF_one (opens_int Tryd.underlying2) (by rw [cells2]))))))))))
  exact h.imp (fun _ _ => trivial)
/-- What a slice of a readable kind gives. -/
theorem open_of {t e : TypeId} {α : Type} {d : Kd α} {wf : α → Prop} (ht : Tryd.prog.underlying t = some (.slice e)) (hc : Tryd.prog.cellsOf e = d.sz) (he : Opens Tryd.prog e d wf)
    {H : Type} {enc : TypeId × Value → H} {w : World} {base : Nat} {spare : Nat → Bool} {held : Bool} {a : Option Addr} {len cap : Nat} {x : DataW H} {p : List MemPlace}
    (h : DataW.Trod enc Tryd.prog w base spare held t (.slice a len cap) x p) : ∃ l : List α, len = l.length ∧ l.length ≤ cap ∧ Kd.C d w a l.length l ∧ ∀ y ∈ l, wf y := by
  obtain ⟨m, hm⟩ := h
  obtain ⟨A, c, xs, e, h1, h2, h3⟩ := opens_row ht hc he hm
  obtain ⟨rfl, rfl, rfl⟩ : a = A ∧ len = xs.length ∧ cap = c := by simpa [Value.cells] using e
  exact ⟨xs, rfl, h1, h2, h3⟩
end Go.Proofs.YtlhfafklpchihaaDoor.MAll
