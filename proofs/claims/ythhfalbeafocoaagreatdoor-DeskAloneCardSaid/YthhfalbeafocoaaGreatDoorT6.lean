/- What the rows of this seat share: the closed facts of the program, the listed tables, an argument that is a string. -/
import Derived.Test.YthhfalbeafocoaaGreatDoorR2d
import Derived.Test.YthhfalbeafocoaaGreatDoorS6
import Derived.Test.YthhfalbeafocoaaGreatDoorMe
import Derived.LaidLaws
import Derived.Test.YthhfalbeafocoaaGreatDoorT6b
import Derived.Test.YthhfalbeafocoaaGreatDoorT6c
import Derived.Test.YthhfalbeafocoaaGreatDoorRows
import Derived.SevenTiedAt
import Derived.ClosedOfChecked
import Derived.Deep.DeepWitnessRowRef
set_option maxRecDepth 100000
namespace Go.Proofs.YthhfalbeafocoaaGreatDoor
open Go.ChangeShapes Go.WideShapes Go.RowKit Go.Abs Go
theorem own : ownKnob Tryz.prog.godebug = none := by kernel_rfl
theorem tabSp {W : World} {laid : List (String × DataW Unit)} (hmem : ("strings.asciiSpace", Lib.tabData .u8 Lib.asciiSpaceTab) ∈ laid) (h : laidMet Tryz.prog laid W) : Lib.TabIs Tryz.prog W "strings.asciiSpace" .u8 Lib.asciiSpaceTab :=
  tab_of_laid (g := 4) (by kernel_rfl) (t := 403) (by kernel_rfl) (n := 256) (e := 5) (by kernel_rfl) (by kernel_rfl) (by kernel_rfl) (by kernel_rfl) hmem h
theorem spDatum : (Rows.laid_strings_asciiSpace : DataW Unit) = Lib.tabData .u8 Lib.asciiSpaceTab := by kernel_rfl
theorem tabPow {W : World} {laid : List (String × DataW Unit)} (hmem : ("internal/strconv.uint64pow10", Lib.tabData .u64 Lib.pow10Tab) ∈ laid) (h : laidMet Tryz.prog laid W) : Lib.TabIs Tryz.prog W "internal/strconv.uint64pow10" .u64 Lib.pow10Tab :=
  tab_of_laid (g := 1) (by kernel_rfl) (t := 311) (by kernel_rfl) (n := 20) (e := 189) (by kernel_rfl) (by kernel_rfl) (by kernel_rfl) (by kernel_rfl) hmem h
theorem powDatum : (Rows.laid_internal_strconv_uint64pow10 : DataW Unit) = Lib.tabData .u64 Lib.pow10Tab := by kernel_rfl
theorem hty : Tryz.checked.prog.types = Tryz.checked.src.types := by kernel_rfl
theorem specs : Go.ClosedOfChecked.AllSpec Tryz.checked.prog := Go.ClosedOfChecked.allSpec_of Tryz.checked.wellFormed hty
theorem laidOut : laidOutB Tryz.prog = true := Go.ClosedOfChecked.laidOutB_of specs restOk
theorem mapsRow : mapsRowed Tryz.prog = true := Go.ClosedOfChecked.mapsRowed_of specs
theorem u9 : Tryz.prog.underlying 9 = some .string := by kernel_rfl
/-- an argument that is a string -/
theorem arg_str {H : Type} {enc : TypeId × Value → H} {W : World} {base : Nat} {v : Value} {d : DataW H} {p : List MemPlace}
    (hval : Value.okWide Tryz.prog W .any base 9 v) (h : DataW.Trod enc Tryz.prog W 0 (fun _ => true) true 9 v d p)
    (hw : (d.weights Tryz.prog 9).all (· ≤ reachBytes) = true) : ∃ x : S, x.length ≤ 140737488355328 ∧ RepV (κ0 W) W (.sc (.s x)) v ∧ True := by
  unfold Value.okWide at hval
  rw [u9] at hval
  obtain ⟨n, hn⟩ := h
  obtain ⟨s, hcs, hx, hs⟩ := DataW.trod_string u9 hn
  cases hx
  have e : v.cells = #[v] := by
    cases v with
    | agg cs =>
      exfalso
      have hval : Cell.okWide Tryz.prog W Reach.any base 9 (Value.agg cs) := hval
      unfold Cell.okWide at hval
      rw [u9] at hval
      have hval : Cell.ok Tryz.prog W Reach.any base 9 (Value.agg cs) := by simpa using hval
      unfold Cell.ok at hval
      rw [u9] at hval
      simp at hval
    | _ => rfl
  have hv : v = .string s := by
    rw [e] at hcs
    simpa using hcs
  subst hv
  refine ⟨s.data.toList, ?_, ?_, trivial⟩
  · simp only [DataW.weights, List.all_cons, List.all_nil, Bool.and_true] at hw
    have := of_decide_eq_true hw
    simp only [reachBytes] at this
    omega
  · have := RepV.sc (κ := κ0 W) (w := W) (.s s.data.toList)
    simpa only [Sc.val, show (⟨s.data.toList.toArray⟩ : ByteArray) = s by simp] using this
/-- the empty text -/
def noS : Value := .string ⟨#[]⟩
/-- a variable of one cell whose type is int holds an int -/
theorem int_of_shape {w : World} {g : Nat} {t : TypeId} {zero : Array Value} (h : w.ShapedOpen Tryz.prog) (hg : g < Tryz.prog.globals.size)
    (h0 : ((begin Tryz.prog (fun _ _ => 0) default).world.heap[g]?).bind Obj.row? = some (zero, t)) (hz : zero.size = 1)
    (hb : Tryz.prog.buildable t = true) (hc : Tryz.prog.cellTypes Tryz.prog.depth t = some [t]) (hu : Tryz.prog.underlying t = some (.int .i64)) : ∃ p, w.cell? ⟨g, 0, none⟩ = some (.int .i64 p) := by
  obtain ⟨cs, hh, hs, hr⟩ := h.1 g zero t hg h0
  obtain ⟨ts, hts, _, hall⟩ := hr hb
  rw [hc] at hts
  cases hts
  have h1 : 0 < cs.size := by omega
  obtain ⟨u, hu', hok⟩ := hall 0 cs[0] (by simp [h1])
  have : u = t := by simpa using hu'.symm
  subst this
  have hcell : w.cell? ⟨g, 0, none⟩ = some cs[0] := by simp [World.cell?, hh, h1]
  rw [hcell]
  unfold Cell.ok at hok
  rw [hu] at hok
  cases hv : cs[0] <;> rw [hv] at hok <;> first | (obtain ⟨rfl, _⟩ := hok; exact ⟨_, rfl⟩) | simp at hok
theorem maxLen' {W : World} (h : W.ShapedOpen Tryz.prog) : ∃ m, W.cell? ⟨0, 0, none⟩ = some (.int .i64 m) :=
  int_of_shape (zero := #[.int .i64 0]) (t := 3) h (of_decide_eq_true (by kernel_rfl)) (by kernel_rfl) rfl (by kernel_rfl) (by kernel_rfl) (by kernel_rfl)
/-- what the list gives: a variable that holds an error -/
theorem iface_of_laid {W : World} {laid : List (String × DataW Unit)} {name nm : String} {d : DataW Unit} {g : Nat} {t : TypeId}
    (hg : Tryz.prog.globalNamed name = some g) (hty : (Tryz.prog.globals[g]?).map (·.type) = some t) (ht : (match Tryz.prog.underlying t with | some (.interface _) => true | _ => false) = true)
    (hmem : (name, .iface nm d) ∈ laid) (h : laidMet Tryz.prog laid W) : ErrV W g := by
  obtain ⟨ps, hL, _⟩ := h
  have ht' : ∃ ms, Tryz.prog.underlying t = some (.interface ms) := by
    split at ht
    · rename_i ms he; exact ⟨ms, he⟩
    · cases ht
  clear ht
  obtain ⟨ms, ht⟩ := ht'
  have go : ∀ (L : List (String × DataW Unit)) (ps : List MemPlace), DataW.LaidVars Tryz.prog W L ps → (name, .iface nm d) ∈ L → ErrV W g := by
    intro L
    induction L with
    | nil => intro ps _ h; simp at h
    | cons x r ih =>
      intro ps h hm
      obtain ⟨g', t', cs, fuel, p, q, hg', ht', hvar, hd, hr, _⟩ := h
      rcases List.mem_cons.1 hm with rfl | hm
      · obtain rfl := Option.some.inj (hg.symm.trans hg')
        obtain rfl := Option.some.inj (hty.symm.trans ht')
        obtain ⟨_, u, v, hcs, _, _⟩ := iface_of_trod ht hd
        have e : cs = #[.iface u v] := Array.toList_inj.1 hcs
        subst e
        refine ⟨.iface u v, ?_, .inr ⟨u, v, rfl⟩⟩
        unfold World.var? at hvar
        rw [hg] at hvar
        simp only [Option.bind_some] at hvar
        split at hvar
        · rename_i c _ _ hh
          cases hvar
          simp [World.cell?, hh]
        · cases hvar
      · exact ih q hr hm
  exact go laid ps hL hmem
end Go.Proofs.YthhfalbeafocoaaGreatDoor
