/- Expressions, as the row reads them. -/
import Derived.Test.YthmcdebdkbhbmaaGreatDoorR0
import Derived.Test.YthmcdebdkbhbmaaGreatDoorProg
set_option maxRecDepth 100000
namespace Go.Abs
open Go.Proofs
section
variable {H : Type} {enc : Go.TypeId × Go.Value → H} {w : Go.World} {bk : Go.DataW H → Nat}
theorem u9 : Tryz.prog.underlying 9 = some .string := by kernel_rfl
theorem u3 : Tryz.prog.underlying 3 = some (.int .i64) := by kernel_rfl
theorem u22 : Tryz.prog.underlying 22 = some (.slice 24) := by kernel_rfl
theorem u24 : Tryz.prog.underlying 24 = some (.struct (flds Tryz.prog 24)) := by kernel_rfl
theorem f24 : (flds Tryz.prog 24).toList.map (fun f => f.type) = [9, 9, 3, 22] := by kernel_rfl
theorem o24 : (flds Tryz.prog 24).toList.map (fun f => f.offset) = List.range 4 := by kernel_rfl
theorem oksE_iff : ∀ {l : List Exp}, oksE l ↔ ∀ x, x ∈ l → x.ok
  | [] => by simp [oksE]
  | x :: r => by simp [oksE, oksE_iff (l := r)]
theorem rdE (hb : Bk bk) : ∀ n, Rd enc Tryz.prog w bk 24 Exp.d Exp.ok n ∧ Rd enc Tryz.prog w bk 22 (fun l => [.lst 4 (expsD l)]) (fun l => l.length ≤ 140737488355328 ∧ oksE l) n
  | 0 => ⟨fun cs x h => by simp [Go.DataW.trod] at h, fun cs x h => by simp [Go.DataW.trod] at h⟩
  | n + 1 => by
    obtain ⟨ih1, ih2⟩ := rdE hb n
    constructor
    · intro cs x h hw
      obtain ⟨xs, n', hn, hx, hc, hxl, hf⟩ := rd_fields (L := [9, 9, 3, 22]) u24 f24 o24 (by kernel_rfl) (by kernel_rfl) h hw
      obtain rfl : n' = n := by omega
      match xs, hxl, cs, hc, hf, hx with
      | [y0, y1, y2, y3], _, [c0, c1, c2, c3], _, hf, hx =>
        obtain ⟨_, e, t0, w0⟩ := hf 0 9 rfl; cases e
        obtain ⟨_, e, t1, w1⟩ := hf 1 9 rfl; cases e
        obtain ⟨_, e, t2, w2⟩ := hf 2 3 rfl; cases e
        obtain ⟨_, e, t3, w3⟩ := hf 3 22 rfl; cases e
        obtain ⟨a, ha, ca, ba⟩ := rd_string hb u9 n' _ _ t0 w0
        obtain ⟨b, hb', cb, bb⟩ := rd_string hb u9 n' _ _ t1 w1
        obtain ⟨k, hk, ck, bk'⟩ := rd_int hb u3 n' _ _ t2 w2
        obtain ⟨l, hl, cl, bl⟩ := ih2 _ _ t3 w3
        refine ⟨.mk a b k l, ⟨⟨ha, hb', hk⟩, hl.1, hl.2⟩, ?_, ?_⟩
        · rw [Exp.d]
          exact cells_cons ca.one (cells_cons cb.one (cells_cons ck.one (cells_cons cl.one cells_nil)))
        · have := hb.agg ([y0, y1, y2, y3].map (·.1))
          rw [hx]
          rw [Exp.d]
          simp only [bulkL, List.map_cons, List.map_nil, List.sum_cons, List.sum_nil] at ba bb bk' bl this ⊢
          omega
    · intro cs x h hw
      obtain ⟨l, hl, cl, bl⟩ := rd_slice hb u22 (sz := 4) (by kernel_rfl) (by omega) (by decide +kernel) ih1 cs x h hw
      refine ⟨l, ⟨hl.1, oksE_iff.2 hl.2⟩, ?_, ?_⟩
      · simp only [expsD_map]; exact cl
      · simp only [expsD_map]; exact bl
end
end Go.Abs
