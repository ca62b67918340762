/- Join, Atoi, Itoa and Split, by the library's proved contracts. -/
import Derived.Test.YthmcdebdkbhbmaaGreatDoorMc
import Derived.Lib.AtoiErrMem
import Derived.Test.YthmcdebdkbhbmaaGreatDoorSh
namespace Go.Abs
open Go.Proofs Go.RowKit
theorem join_ctr (W0 : Go.World) (l : List (List UInt8)) (sep : List UInt8) (hl : l.length ≤ 140737488355328) (hlen : (Go.Lib.join l sep).length ≤ 140737488355328) :
    Ctr Tryz.prog W0 49 [strL l, .sc (.s sep)] [] (.sc (.s (Go.Lib.join l sep))) [] := by
  refine ctr_lib (by kernel_rfl) rfl fun κ w vals hsz hs => ?_
  have h0 := hs.arg (n := 0) rfl
  have h1 := (hs.arg (n := 1) rfl).sc_inv
  rw [vals2 hsz]
  generalize vals.getD 0 Go.undef = v0 at h0 ⊢
  rw [h1]
  rcases hs.texts h0 with ⟨ad, c, rfl, rfl⟩ | ⟨b, o, c, rfl, hc, hb, hcell⟩
  · refine (Tryz.strings_Join_none ad c _ w).mono ?_
    rintro e w' ⟨rfl, rfl⟩
    exact ⟨_, rfl, Below.refl _ _, .sc (.s [])⟩
  · have em : (l.map fun s => (⟨s.toArray⟩ : ByteArray)).map (·.data.toList) = l := by simp [Function.comp_def]
    have := Tryz.strings_Join b o c (l.map fun s => ⟨s.toArray⟩) ⟨sep.toArray⟩ w (by
      intro j x hx
      rw [List.getElem?_map] at hx
      cases hj : l[j]? with
      | none => rw [hj] at hx; cases hx
      | some s => rw [hj] at hx; cases hx; exact hcell j s hj) hb (by simpa using hl) (by simpa using hc) (by rw [em]; simpa using hlen)
    rw [em] at this
    simp only [List.length_map] at this
    refine this.mono ?_
    rintro e w' ⟨rfl, hw⟩
    exact ⟨_, rfl, hw, .sc (.s _)⟩
theorem atoi_ctr (W0 : Go.World) (s : List UInt8) (n : Int) (hl : s.length ≤ 18) (h : Go.Lib.atoi s = some n) : Ctr Tryz.prog W0 188 [.sc (.s s)] [] (.tup [.sc (.i .i64 n), .sc .ni]) [] := by
  refine ctr_lib (by kernel_rfl) rfl fun κ w vals hsz hs => ?_
  have h0 := (hs.arg (n := 0) rfl).sc_inv
  rw [vals1 hsz, h0]
  refine (Tryz.strconv_Atoi ⟨s.toArray⟩ n (by simpa [ByteArray.size] using hl) h w).mono ?_
  rintro e w' ⟨rfl, t, rfl⟩
  refine ⟨_, rfl, Go.Lib.bytesWorld_below _ _ _, .tup _ _ rfl fun j v hj => ?_⟩
  match j, hj with
  | 0, hj => simp at hj; subst hj; exact .sc (.i .i64 n)
  | 1, hj => simp at hj; subst hj; exact .sc .ni
  | j + 2, hj => simp at hj
end Go.Abs
namespace Go.Abs
open Go.Proofs Go.RowKit
theorem fields_ctr (W0 : Go.World) (htab : Go.Lib.TabIs Tryz.prog W0 "strings.asciiSpace" .u8 Go.Lib.asciiSpaceTab) (s : List UInt8) (hl : s.length < 4294967281) (ha : ∀ b, b ∈ s → b.toNat < 128) :
    Ctr Tryz.prog W0 261 [.sc (.s s)] [] (.sl 1 (strsD (Go.Lib.fields s)) .full) [] := by
  refine ctr_lib (by kernel_rfl) rfl fun κ w vals hsz hs => ?_
  have h0 := (hs.arg (n := 0) rfl).sc_inv
  rw [vals1 hsz, h0]
  refine (Tryz.strings_Fields_laid ⟨s.toArray⟩ w (by simpa [ByteArray.size] using hl) (fun j b hb => ha b (List.mem_of_getElem? (by simpa using hb))) (hs.tab htab)).mono ?_
  rintro e w' ⟨rfl, rfl⟩
  exact ⟨_, rfl, below_alloc _ _, alloc_texts (Go.Lib.fields s) 9⟩
theorem itoa_ctr (W0 : Go.World) (htab : Go.Lib.TabIs Tryz.prog W0 "internal/strconv.uint64pow10" .u64 Go.Lib.pow10Tab) (n : Int) (hn : Fits .i64 n) :
    Ctr Tryz.prog W0 86 [.sc (.i .i64 n)] [] (.sc (.s (Go.Lib.itoa n))) [] := by
  refine ctr_lib (by kernel_rfl) rfl fun κ w vals hsz hs => ?_
  have h0 := (hs.arg (n := 0) rfl).sc_inv
  rw [vals1 hsz, h0]
  refine (Tryz.strconv_Itoa n hn.1 hn.2 w (hs.tab htab)).mono ?_
  rintro e w' ⟨rfl, k, os, rfl⟩
  refine ⟨_, rfl, ⟨rfl, rfl, rfl, by simp [Go.Sort.grow], fun b hb => ?_⟩, .sc (.s _)⟩
  have hb' : b < (w.drewN k).heap.size := hb
  show ((w.drewN k).heap ++ os)[b]? = _
  rw [Array.getElem?_append_left hb']
  rfl
theorem split_ctr (W0 : Go.World) (hm : ∃ m, W0.cell? ⟨0, 0, none⟩ = some (.int .i64 m)) (s sep : List UInt8) (hl : s.length < 4294967281) (h1 : 1 ≤ sep.length) (l : List (List UInt8)) (he : (Go.Lib.splitB ⟨sep.toArray⟩ 0 (Go.Lib.countB ⟨s.toArray⟩ ⟨sep.toArray⟩) ⟨s.toArray⟩).map (·.data.toList) = l) (hn : l.length = Go.Lib.countB ⟨s.toArray⟩ ⟨sep.toArray⟩ + 1) :
    Ctr Tryz.prog W0 179 [.sc (.s s), .sc (.s sep)] [] (.sl 1 (strsD l) .full) [] := by
  refine ctr_lib (by kernel_rfl) rfl fun κ w vals hsz hs => ?_
  have h0 := (hs.arg (n := 0) rfl).sc_inv
  have h1' := (hs.arg (n := 1) rfl).sc_inv
  rw [vals2 hsz, h0, h1']
  obtain ⟨m, hm⟩ := hm
  have hm' : w.cell? ⟨0, 0, none⟩ = some (.int .i64 m) := by
    have hlt : 0 < W0.heap.size := by
      cases h : W0.heap[0]? with
      | none => simp [Go.World.cell?, h] at hm
      | some x => exact (Array.getElem?_eq_some_iff.1 h).1
    rw [hs.oldcell hlt]; exact hm
  refine (Tryz.strings_Split ⟨s.toArray⟩ ⟨sep.toArray⟩ m w (by simpa [ByteArray.size] using hl) hm' (by simpa [ByteArray.size] using h1)).mono ?_
  rintro e w' ⟨rfl, rfl⟩
  have e1 : (Go.Lib.splitB ⟨sep.toArray⟩ 0 (Go.Lib.countB ⟨s.toArray⟩ ⟨sep.toArray⟩) ⟨s.toArray⟩).map Go.Value.string = l.map fun s => Go.Value.string ⟨s.toArray⟩ := by
    rw [← he, List.map_map]
    refine List.map_congr_left fun x _ => ?_
    simp
  rw [e1]
  exact ⟨_, rfl, below_alloc _ _, by rw [← hn]; exact alloc_texts l 9⟩
end Go.Abs
