/- Programs, as the row reads them. -/
import Derived.Test.YthmcdebdkbhbmaaGreatDoorR1
import Derived.Test.YthmcdebdkbhbmaaGreatDoorMc
set_option maxRecDepth 100000
namespace Go.Abs
open Go.Proofs
section
variable {H : Type} {enc : Go.TypeId × Go.Value → H} {w : Go.World} {bk : Go.DataW H → Nat}
theorem u48 : Tryz.prog.underlying 48 = some (.slice 9) := by kernel_rfl
theorem u49 : Tryz.prog.underlying 49 = some (.slice 108) := by kernel_rfl
theorem u108 : Tryz.prog.underlying 108 = some (.struct (flds Tryz.prog 108)) := by kernel_rfl
theorem f108 : (flds Tryz.prog 108).toList.map (fun f => f.type) = [9, 9] := by kernel_rfl
theorem o108 : (flds Tryz.prog 108).toList.map (fun f => f.offset) = List.range 2 := by kernel_rfl
theorem u65 : Tryz.prog.underlying 65 = some (.slice 71) := by kernel_rfl
theorem u71 : Tryz.prog.underlying 71 = some (.struct (flds Tryz.prog 71)) := by kernel_rfl
theorem f71 : (flds Tryz.prog 71).toList.map (fun f => f.type) = [9, 9, 3] := by kernel_rfl
theorem o71 : (flds Tryz.prog 71).toList.map (fun f => f.offset) = List.range 3 := by kernel_rfl
theorem u52 : Tryz.prog.underlying 52 = some (.struct (flds Tryz.prog 52)) := by kernel_rfl
theorem f52 : (flds Tryz.prog 52).toList.map (fun f => f.type) = [9, 9, 9, 3, 48, 22, 49, 50] := by kernel_rfl
theorem o52 : (flds Tryz.prog 52).toList.map (fun f => f.offset) = List.range 8 := by kernel_rfl
theorem u28 : Tryz.prog.underlying 28 = some (.slice 52) := by kernel_rfl
theorem u50 : Tryz.prog.underlying 50 = some (.slice 28) := by kernel_rfl
theorem u67 : Tryz.prog.underlying 67 = some (.struct (flds Tryz.prog 67)) := by kernel_rfl
theorem f67 : (flds Tryz.prog 67).toList.map (fun f => f.type) = [9, 9, 65, 28] := by kernel_rfl
theorem o67 : (flds Tryz.prog 67).toList.map (fun f => f.offset) = List.range 4 := by kernel_rfl
theorem u27 : Tryz.prog.underlying 27 = some (.slice 67) := by kernel_rfl
theorem u30 : Tryz.prog.underlying 30 = some (.struct (flds Tryz.prog 30)) := by kernel_rfl
theorem f30 : (flds Tryz.prog 30).toList.map (fun f => f.type) = [27, 28] := by kernel_rfl
theorem o30 : (flds Tryz.prog 30).toList.map (fun f => f.offset) = List.range 2 := by kernel_rfl
theorem rdT (hb : Bk bk) (n : Nat) : Rd enc Tryz.prog w bk 48 (fun l => [.lst 1 (strsD l)]) okT n := by
  cases n with
  | zero => intro cs x h; simp [Go.DataW.trod] at h
  | succ n =>
    intro cs x h hw
    obtain ⟨l, hl, cl, bl⟩ := rd_slice hb u48 (sz := 1) (by kernel_rfl) (by omega) (by decide +kernel) (rd_string hb u9 n) cs x h hw
    exact ⟨l, hl, cl, bl⟩
theorem rdF (hb : Bk bk) (n : Nat) : Rd enc Tryz.prog w bk 108 Fold.d Fold.ok (n + 1) := by
  intro cs x h hw
  obtain ⟨xs, n', hn, hx, hc, hxl, hf⟩ := rd_fields (L := [9, 9]) u108 f108 o108 (by kernel_rfl) (by kernel_rfl) h hw
  obtain rfl : n' = n := by omega
  match xs, hxl, cs, hc, hf, hx with
  | [y0, y1], _, [c0, c1], _, hf, hx =>
    obtain ⟨_, e, t0, w0⟩ := hf 0 9 rfl; cases e
    obtain ⟨_, e, t1, w1⟩ := hf 1 9 rfl; cases e
    obtain ⟨a0, h0, g0, b0⟩ := (rd_string hb u9 n') _ _ t0 w0
    obtain ⟨a1, h1, g1, b1⟩ := (rd_string hb u9 n') _ _ t1 w1
    refine ⟨⟨a0, a1⟩, ⟨h0, h1⟩, ?_, ?_⟩
    · exact cells_cons g0.one (cells_cons g1.one cells_nil)
    · have := hb.agg ([y0, y1].map (·.1))
      rw [hx]
      simp only [Fold.d, bulkL, List.map_cons, List.map_nil, List.sum_cons, List.sum_nil] at b0 b1 this ⊢
      omega
theorem rdFs (hb : Bk bk) (n : Nat) (hr : Rd enc Tryz.prog w bk 108 Fold.d Fold.ok n) : Rd enc Tryz.prog w bk 49 (fun l => [.lst 2 (foldsD l)]) (fun l => l.length ≤ 140737488355328 ∧ ∀ f, f ∈ l → f.ok) (n + 1) := by
  intro cs x h hw
  obtain ⟨l, hl, cl, bl⟩ := rd_slice hb u49 (sz := 2) (by kernel_rfl) (by omega) (by decide +kernel) (hr) cs x h hw
  refine ⟨l, hl, ?_, ?_⟩
  · simp only [foldsD]; exact cl
  · simp only [foldsD]; exact bl
theorem rdPm (hb : Bk bk) (n : Nat) : Rd enc Tryz.prog w bk 71 Prm.d Prm.ok (n + 1) := by
  intro cs x h hw
  obtain ⟨xs, n', hn, hx, hc, hxl, hf⟩ := rd_fields (L := [9, 9, 3]) u71 f71 o71 (by kernel_rfl) (by kernel_rfl) h hw
  obtain rfl : n' = n := by omega
  match xs, hxl, cs, hc, hf, hx with
  | [y0, y1, y2], _, [c0, c1, c2], _, hf, hx =>
    obtain ⟨_, e, t0, w0⟩ := hf 0 9 rfl; cases e
    obtain ⟨_, e, t1, w1⟩ := hf 1 9 rfl; cases e
    obtain ⟨_, e, t2, w2⟩ := hf 2 3 rfl; cases e
    obtain ⟨a0, h0, g0, b0⟩ := (rd_string hb u9 n') _ _ t0 w0
    obtain ⟨a1, h1, g1, b1⟩ := (rd_string hb u9 n') _ _ t1 w1
    obtain ⟨a2, h2, g2, b2⟩ := (rd_int hb u3 n') _ _ t2 w2
    refine ⟨⟨a0, a1, a2⟩, ⟨h0, h1, h2⟩, ?_, ?_⟩
    · exact cells_cons g0.one (cells_cons g1.one (cells_cons g2.one cells_nil))
    · have := hb.agg ([y0, y1, y2].map (·.1))
      rw [hx]
      simp only [Prm.d, bulkL, List.map_cons, List.map_nil, List.sum_cons, List.sum_nil] at b0 b1 b2 this ⊢
      omega
theorem rdPms (hb : Bk bk) (n : Nat) (hr : Rd enc Tryz.prog w bk 71 Prm.d Prm.ok n) : Rd enc Tryz.prog w bk 65 (fun l => [.lst 3 (prmsD l)]) (fun l => l.length ≤ 140737488355328 ∧ ∀ f, f ∈ l → f.ok) (n + 1) := by
  intro cs x h hw
  obtain ⟨l, hl, cl, bl⟩ := rd_slice hb u65 (sz := 3) (by kernel_rfl) (by omega) (by decide +kernel) (hr) cs x h hw
  refine ⟨l, hl, ?_, ?_⟩
  · simp only [prmsD]; exact cl
  · simp only [prmsD]; exact bl
theorem rdF' (hb : Bk bk) : ∀ n, Rd enc Tryz.prog w bk 108 Fold.d Fold.ok n
  | 0 => fun cs x h => by simp [Go.DataW.trod] at h
  | n + 1 => rdF hb n
theorem rdPm' (hb : Bk bk) : ∀ n, Rd enc Tryz.prog w bk 71 Prm.d Prm.ok n
  | 0 => fun cs x h => by simp [Go.DataW.trod] at h
  | n + 1 => rdPm hb n
theorem rdFs' (hb : Bk bk) : ∀ n, Rd enc Tryz.prog w bk 49 (fun l => [.lst 2 (foldsD l)]) (fun l => l.length ≤ 140737488355328 ∧ ∀ f, f ∈ l → f.ok) n
  | 0 => fun cs x h => by simp [Go.DataW.trod] at h
  | n + 1 => rdFs hb n (rdF' hb n)
theorem rdPms' (hb : Bk bk) : ∀ n, Rd enc Tryz.prog w bk 65 (fun l => [.lst 3 (prmsD l)]) (fun l => l.length ≤ 140737488355328 ∧ ∀ f, f ∈ l → f.ok) n
  | 0 => fun cs x h => by simp [Go.DataW.trod] at h
  | n + 1 => rdPms hb n (rdPm' hb n)
theorem oksB_iff : ∀ {l : List Stm}, oksB l ↔ ∀ x, x ∈ l → x.ok
  | [] => by simp [oksB]
  | x :: r => by simp [oksB, oksB_iff (l := r)]
theorem oksBs_iff : ∀ {l : List (List Stm)}, oksBs l ↔ ∀ x, x ∈ l → x.length ≤ 140737488355328 ∧ oksB x
  | [] => by simp [oksBs]
  | x :: r => by simp [oksBs, oksBs_iff (l := r)]
theorem rdS (hb : Bk bk) (n : Nat) (hr : Rd enc Tryz.prog w bk 50 (fun l => [.lst 1 (bodiesD l)]) (fun l => l.length ≤ 140737488355328 ∧ oksBs l) n) : Rd enc Tryz.prog w bk 52 Stm.d Stm.ok (n + 1) := by
  intro cs x h hw
  obtain ⟨xs, n', hn, hx, hc, hxl, hf⟩ := rd_fields (L := [9, 9, 9, 3, 48, 22, 49, 50]) u52 f52 o52 (by kernel_rfl) (by kernel_rfl) h hw
  obtain rfl : n' = n := by omega
  match xs, hxl, cs, hc, hf, hx with
  | [y0, y1, y2, y3, y4, y5, y6, y7], _, [c0, c1, c2, c3, c4, c5, c6, c7], _, hf, hx =>
    obtain ⟨_, e, t0, w0⟩ := hf 0 9 rfl; cases e
    obtain ⟨_, e, t1, w1⟩ := hf 1 9 rfl; cases e
    obtain ⟨_, e, t2, w2⟩ := hf 2 9 rfl; cases e
    obtain ⟨_, e, t3, w3⟩ := hf 3 3 rfl; cases e
    obtain ⟨_, e, t4, w4⟩ := hf 4 48 rfl; cases e
    obtain ⟨_, e, t5, w5⟩ := hf 5 22 rfl; cases e
    obtain ⟨_, e, t6, w6⟩ := hf 6 49 rfl; cases e
    obtain ⟨_, e, t7, w7⟩ := hf 7 50 rfl; cases e
    obtain ⟨a0, h0, g0, b0⟩ := (rd_string hb u9 n') _ _ t0 w0
    obtain ⟨a1, h1, g1, b1⟩ := (rd_string hb u9 n') _ _ t1 w1
    obtain ⟨a2, h2, g2, b2⟩ := (rd_string hb u9 n') _ _ t2 w2
    obtain ⟨a3, h3, g3, b3⟩ := (rd_int hb u3 n') _ _ t3 w3
    obtain ⟨a4, h4, g4, b4⟩ := (rdT hb n') _ _ t4 w4
    obtain ⟨a5, h5, g5, b5⟩ := ((rdE hb n').2) _ _ t5 w5
    obtain ⟨a6, h6, g6, b6⟩ := (rdFs' hb n') _ _ t6 w6
    obtain ⟨a7, h7, g7, b7⟩ := hr _ _ t7 w7
    refine ⟨.mk a0 a1 a2 a3 a4 a5 a6 a7, ⟨⟨h0, h1, h2, h3⟩, h4, h5, h6, h7⟩, ?_, ?_⟩
    · rw [Stm.d]; exact cells_cons g0.one (cells_cons g1.one (cells_cons g2.one (cells_cons g3.one (cells_cons g4.one (cells_cons g5.one (cells_cons g6.one (cells_cons g7.one cells_nil)))))))
    · have := hb.agg ([y0, y1, y2, y3, y4, y5, y6, y7].map (·.1))
      rw [hx]
      rw [Stm.d]; simp only [bulkL, List.map_cons, List.map_nil, List.sum_cons, List.sum_nil] at b0 b1 b2 b3 b4 b5 b6 b7 this ⊢
      omega
theorem rdB (hb : Bk bk) (n : Nat) (hr : Rd enc Tryz.prog w bk 52 Stm.d Stm.ok n) : Rd enc Tryz.prog w bk 28 (fun l => [.lst 8 (stmsD l)]) (fun l => l.length ≤ 140737488355328 ∧ oksB l) (n + 1) := by
  intro cs x h hw
  obtain ⟨l, hl, cl, bl⟩ := rd_slice hb u28 (sz := 8) (by kernel_rfl) (by omega) (by decide +kernel) (hr) cs x h hw
  refine ⟨l, ⟨hl.1, oksB_iff.2 hl.2⟩, ?_, ?_⟩
  · simp only [stmsD_map]; exact cl
  · simp only [stmsD_map]; exact bl
theorem rdBs (hb : Bk bk) (n : Nat) (hr : Rd enc Tryz.prog w bk 28 (fun l => [.lst 8 (stmsD l)]) (fun l => l.length ≤ 140737488355328 ∧ oksB l) n) : Rd enc Tryz.prog w bk 50 (fun l => [.lst 1 (bodiesD l)]) (fun l => l.length ≤ 140737488355328 ∧ oksBs l) (n + 1) := by
  intro cs x h hw
  obtain ⟨l, hl, cl, bl⟩ := rd_slice hb u50 (sz := 1) (by kernel_rfl) (by omega) (by decide +kernel) (hr) cs x h hw
  refine ⟨l, ⟨hl.1, oksBs_iff.2 hl.2⟩, ?_, ?_⟩
  · simp only [bodiesD_map]; exact cl
  · simp only [bodiesD_map]; exact bl
theorem rdSs (hb : Bk bk) : ∀ n, Rd enc Tryz.prog w bk 52 Stm.d Stm.ok n ∧ Rd enc Tryz.prog w bk 28 (fun l => [.lst 8 (stmsD l)]) (fun l => l.length ≤ 140737488355328 ∧ oksB l) n ∧ Rd enc Tryz.prog w bk 50 (fun l => [.lst 1 (bodiesD l)]) (fun l => l.length ≤ 140737488355328 ∧ oksBs l) n
  | 0 => ⟨fun cs x h => by simp [Go.DataW.trod] at h, fun cs x h => by simp [Go.DataW.trod] at h, fun cs x h => by simp [Go.DataW.trod] at h⟩
  | n + 1 => ⟨rdS hb n (rdSs hb n).2.2, rdB hb n (rdSs hb n).1, rdBs hb n (rdSs hb n).2.1⟩
theorem rdPc (hb : Bk bk) (n : Nat) : Rd enc Tryz.prog w bk 67 Prc.d Prc.ok (n + 1) := by
  intro cs x h hw
  obtain ⟨xs, n', hn, hx, hc, hxl, hf⟩ := rd_fields (L := [9, 9, 65, 28]) u67 f67 o67 (by kernel_rfl) (by kernel_rfl) h hw
  obtain rfl : n' = n := by omega
  match xs, hxl, cs, hc, hf, hx with
  | [y0, y1, y2, y3], _, [c0, c1, c2, c3], _, hf, hx =>
    obtain ⟨_, e, t0, w0⟩ := hf 0 9 rfl; cases e
    obtain ⟨_, e, t1, w1⟩ := hf 1 9 rfl; cases e
    obtain ⟨_, e, t2, w2⟩ := hf 2 65 rfl; cases e
    obtain ⟨_, e, t3, w3⟩ := hf 3 28 rfl; cases e
    obtain ⟨a0, h0, g0, b0⟩ := (rd_string hb u9 n') _ _ t0 w0
    obtain ⟨a1, h1, g1, b1⟩ := (rd_string hb u9 n') _ _ t1 w1
    obtain ⟨a2, h2, g2, b2⟩ := (rdPms' hb n') _ _ t2 w2
    obtain ⟨a3, h3, g3, b3⟩ := ((rdSs hb n').2.1) _ _ t3 w3
    refine ⟨⟨a0, a1, a2, a3⟩, ⟨⟨h0, h1⟩, h2, h3⟩, ?_, ?_⟩
    · exact cells_cons g0.one (cells_cons g1.one (cells_cons g2.one (cells_cons g3.one cells_nil)))
    · have := hb.agg ([y0, y1, y2, y3].map (·.1))
      rw [hx]
      simp only [Prc.d, bulkL, List.map_cons, List.map_nil, List.sum_cons, List.sum_nil] at b0 b1 b2 b3 this ⊢
      omega
theorem rdPc' (hb : Bk bk) : ∀ n, Rd enc Tryz.prog w bk 67 Prc.d Prc.ok n
  | 0 => fun cs x h => by simp [Go.DataW.trod] at h
  | n + 1 => rdPc hb n
theorem rdPcs (hb : Bk bk) (n : Nat) (hr : Rd enc Tryz.prog w bk 67 Prc.d Prc.ok n) : Rd enc Tryz.prog w bk 27 (fun l => [.lst 4 (prcsD l)]) (fun l => l.length ≤ 140737488355328 ∧ ∀ f, f ∈ l → f.ok) (n + 1) := by
  intro cs x h hw
  obtain ⟨l, hl, cl, bl⟩ := rd_slice hb u27 (sz := 4) (by kernel_rfl) (by omega) (by decide +kernel) (hr) cs x h hw
  refine ⟨l, hl, ?_, ?_⟩
  · simp only [prcsD]; exact cl
  · simp only [prcsD]; exact bl
theorem rdPcs' (hb : Bk bk) : ∀ n, Rd enc Tryz.prog w bk 27 (fun l => [.lst 4 (prcsD l)]) (fun l => l.length ≤ 140737488355328 ∧ ∀ f, f ∈ l → f.ok) n
  | 0 => fun cs x h => by simp [Go.DataW.trod] at h
  | n + 1 => rdPcs hb n (rdPc' hb n)
theorem rdG (hb : Bk bk) (n : Nat) : Rd enc Tryz.prog w bk 30 Prg.d Prg.ok (n + 1) := by
  intro cs x h hw
  obtain ⟨xs, n', hn, hx, hc, hxl, hf⟩ := rd_fields (L := [27, 28]) u30 f30 o30 (by kernel_rfl) (by kernel_rfl) h hw
  obtain rfl : n' = n := by omega
  match xs, hxl, cs, hc, hf, hx with
  | [y0, y1], _, [c0, c1], _, hf, hx =>
    obtain ⟨_, e, t0, w0⟩ := hf 0 27 rfl; cases e
    obtain ⟨_, e, t1, w1⟩ := hf 1 28 rfl; cases e
    obtain ⟨a0, h0, g0, b0⟩ := (rdPcs' hb n') _ _ t0 w0
    obtain ⟨a1, h1, g1, b1⟩ := ((rdSs hb n').2.1) _ _ t1 w1
    refine ⟨⟨a0, a1⟩, ⟨h0, h1⟩, ?_, ?_⟩
    · exact cells_cons g0.one (cells_cons g1.one cells_nil)
    · have := hb.agg ([y0, y1].map (·.1))
      rw [hx]
      simp only [Prg.d, bulkL, List.map_cons, List.map_nil, List.sum_cons, List.sum_nil] at b0 b1 this ⊢
      omega
theorem rdG' (hb : Bk bk) : ∀ n, Rd enc Tryz.prog w bk 30 Prg.d Prg.ok n
  | 0 => fun cs x h => by simp [Go.DataW.trod] at h
  | n + 1 => rdG hb n
end
end Go.Abs
