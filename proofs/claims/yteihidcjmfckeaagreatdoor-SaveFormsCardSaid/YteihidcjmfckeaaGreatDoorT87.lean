/- save.text at one image: by the library's contracts. -/
import Derived.Test.YteihidcjmfckeaaGreatDoorSh
import Derived.WalkKit
import Derived.Deep.DeepFit
import Derived.Outline
import Derived.MapKept
import Derived.Deep.RegionHeld3
set_option linter.all false
set_option maxRecDepth 1000000
set_option maxHeartbeats 16000000
namespace Go.Proofs
open Go.RowKit Go
theorem bcs_app (a b:List UInt8):Lib.byteCells a++Lib.strCells ⟨b.toArray⟩=Lib.byteCells (a++b):=by
 simp [Lib.byteCells,Lib.strCells]
theorem ki {T e:TypeId} {B b:Nat} {bs:List Value} {w w1:World} (h:Lib.IsBuilder T e B b bs w) (hb:Below w.heap.size w w1):Lib.IsBuilder T e B b bs w1:=by
 have key:∀ {p:Value},Lib.BuilderAt T e B b p bs w→Lib.BuilderAt T e B b p bs w1:=by
  rintro p ⟨h0,v,h1,h2,h3⟩
  have hlt:∀ {k:Nat} {x:Obj},w.heap[k]? = some x→w1.heap[k]? = some x:=fun {k x} hx=>by
   have:k<w.heap.size:=by
    rcases Nat.lt_or_ge k w.heap.size with h | h
    ·exact h
    ·simp [Array.getElem?_eq_none h] at hx
   rw [hb.block k this];exact hx
  refine ⟨h0,v,hlt h1,⟨h2.1,?_⟩,h3⟩
  rcases h2.2 with h4 | ⟨g,cap,cur,g1,g2,g3,g4⟩
  ·exact .inl h4
  ·exact .inr ⟨g,cap,cur,g1,g2,hlt g3,g4⟩
 rcases h with h | h
 ·exact .inl (key h)
 ·exact .inr (key h)
theorem Tryz.write56 (B b:Nat) (l:List UInt8) (s:List UInt8) (w:World) (h:Lib.IsBuilder 132 5 B b (Lib.byteCells l) w) (hlen:l.length+s.length≤1000000) (hBw:B≤w.heap.size) :
  Calls Tryz.prog 56 #[.pointer (some ⟨b,0,none⟩),.string ⟨s.toArray⟩] w fun e w'=>e=.returned (.tuple #[.int .i64 s.length,.nilIface])∧Lib.IsBuilder 132 5 B b (Lib.byteCells (l++s)) w'∧Below B w w':=by
 refine (Any.Builder_WriteString { Tryz.lays156 with } Tryz.Builder_Extra_156 B b (Lib.byteCells l) ⟨s.toArray⟩ w h ?_ hBw).mono ?_
 ·rw [Lib.byteCells_length];simp [ByteArray.size];omega
 ·rintro e w' ⟨rfl,h1,h2⟩
  rw [bcs_app] at h1
  exact ⟨by simp [ByteArray.size],.inr h1,h2⟩
theorem Tryz.line139 (B b:Nat) (l:List UInt8) (xs:List ByteArray) (bk o c:Nat) (w:World) (h:Lib.IsBuilder 132 5 B b (Lib.byteCells l) w) (hBw:B≤w.heap.size)
  (hcells:∀ (j:Nat) x,xs[j]? = some x→w.cell? ⟨bk,o+j,none⟩=some (.string x)) (hbk:bk<w.heap.size) (hcap:xs.length≤c) (hN:xs.length≤1000)
  (hlen:l.length+(Lib.join (xs.map (·.data.toList)) [32]).length+1≤1000000) :
  Calls Tryz.prog 139 #[.slice (some ⟨bk,o,none⟩) xs.length c,.pointer (some ⟨b,0,none⟩)] w fun e w'=>e=.returned (.tuple #[])∧Lib.IsBuilder 132 5 B b (Lib.byteCells (l++(Lib.join (xs.map (·.data.toList)) [32]++[10]))) w'∧Below B w w':=by
 go_enter Tryz.func139,Tryz.ntmps139
 go_wp2_with (first
  | (go_at_call 29;refine (Tryz.strings_Join bk o c xs ⟨[32].toArray⟩ _ hcells hbk (by omega) hcap (by simp at hlen ⊢;omega)).mono ?_;rintro e w1 ⟨rfl,hb1⟩)
  | (go_at_call 56;refine (Tryz.write56 B b l (Lib.join (xs.map (·.data.toList)) [32]++[10]) _ (ki h hb1) (by simp;omega) (Nat.le_trans hBw hb1.size)).mono ?_;rintro e w2 ⟨rfl,h2,hb2⟩))
 go_end0
 exact ⟨rfl,h2,Below.trans ⟨hb1.os,hb1.tape,hb1.output,hb1.size,fun k hk=>hb1.block k (Nat.lt_of_lt_of_le hk hBw)⟩ hb2⟩
theorem Tryz.made140 (b o b1 o1:Nat) (n:Int) (w:World) (h0:w.cell? ⟨b,o+20,none⟩=some (.pointer (some ⟨b1,o1,none⟩))) (h1:w.cell? ⟨b1,o1+2,none⟩=some (.int .i64 n)) :
  Calls Tryz.prog 140 #[.pointer (some ⟨b,o,none⟩)] w fun e w'=>e=.returned (.int .i64 n)∧w'=w:=by
 go_enter Tryz.func140,Tryz.ntmps140
 go_wp2
 go_ret
 exact ⟨rfl,rfl⟩
structure TextAt (w:World) (b o:Nat) (steps made:Nat) (nm:ByteArray) (v:Nat):Prop where
 lt:b<w.heap.size
 steps:w.cell? ⟨b,o+4,none⟩=some (.int .i64 steps)
 out:∃ a c,w.cell? ⟨b,o+5,none⟩=some (.slice a 0 c)
 first:∃ b1 o1,w.cell? ⟨b,o+20,none⟩=some (.pointer (some ⟨b1,o1,none⟩))∧w.cell? ⟨b1,o1+2,none⟩=some (.int .i64 made)
 order:∃ b1 o1 c,w.cell? ⟨b,o+13,none⟩=some (.slice (some ⟨b1,o1,none⟩) 1 c)∧1≤c∧w.cell? ⟨b1,o1,none⟩=some (.string nm)
 doms:∃ b1 c,w.cell? ⟨b,o+8,none⟩=some (.map (some b1))∧w.heap[b1]? = some (.map #[] c)
 arrs:∃ b1 c,w.cell? ⟨b,o+9,none⟩=some (.map (some b1))∧w.heap[b1]? = some (.map #[] c)
 glob:∃ b1 c e b2 o2,w.cell? ⟨b,o+12,none⟩=some (.map (some b1))∧w.heap[b1]? = some (.map #[e] c)∧e.key=.string nm∧e.val=.pointer (some ⟨b2,o2,none⟩)∧w.cell? ⟨b2,o2,none⟩=some (.int .i64 v)∧w.cell? ⟨b2,o2+3,none⟩=some (.bool false)
theorem cell_lt {w:World} {b o:Nat} {v:Value} (h:w.cell? ⟨b,o,none⟩=some v):b<w.heap.size:=by
 cases hh:w.heap[b]? with
 | none=>simp [World.cell?,hh] at h
 | some x=>exact (Array.getElem?_eq_some_iff.1 hh).1
theorem lE {w:World} {b:Nat} {x:Obj} (h:w.heap[b]? = some x):b<w.heap.size:=(Array.getElem?_eq_some_iff.1 h).1
theorem bG {w w1:World} (hb:Below w.heap.size w w1) {b o:Nat} {v:Value} (h:w.cell? ⟨b,o,none⟩=some v):w1.cell? ⟨b,o,none⟩=some v:=by
 have hlt:=cell_lt h
 simp only [World.cell?,hb.block b hlt] at h ⊢;exact h
theorem TextAt.later {w w1:World} (hb:Below w.heap.size w w1) {b o steps made:Nat} {nm:ByteArray} {v:Nat} (h:TextAt w b o steps made nm v):TextAt w1 b o steps made nm v:=by
 have hc:∀ {b o:Nat} {v:Value},w.cell? ⟨b,o,none⟩=some v→w1.cell? ⟨b,o,none⟩=some v:=fun h=>bG hb h
 have hh:∀ {b:Nat} {x:Obj},w.heap[b]? = some x→w1.heap[b]? = some x:=fun {b x} h=>by rw [hb.block b (lE h)];exact h
 obtain ⟨a0,c0,g0⟩:=h.out
 obtain ⟨b1,o1,g1,g2⟩:=h.first
 obtain ⟨b2,o2,c2,g3,g4,g5⟩:=h.order
 obtain ⟨b3,c3,g6,g7⟩:=h.doms
 obtain ⟨b4,c4,g8,g9⟩:=h.arrs
 obtain ⟨b5,c5,e5,b6,o6,g10,g11,g12,g13,g14,g15⟩:=h.glob
 exact ⟨Nat.lt_of_lt_of_le h.lt hb.size,hc h.steps,⟨a0,c0,hc g0⟩,⟨b1,o1,hc g1,hc g2⟩,⟨b2,o2,c2,hc g3,g4,hc g5⟩,⟨b3,c3,hc g6,hh g7⟩,⟨b4,c4,hc g8,hh g9⟩,⟨b5,c5,e5,b6,o6,hc g10,hh g11,g12,g13,hc g14,hc g15⟩⟩
theorem oR (w:World) (xs:List ByteArray) (A:Array Value) (ty:TypeId) (hA:A=(xs.map Value.string).toArray):∀ (j:Nat) x,xs[j]? = some x→((w.alloc (.cells A ty)).drew).cell? ⟨w.heap.size,0+j,none⟩=some (.string x):=by
 intro j x hx
 subst hA
 have h1:((w.alloc (.cells (xs.map Value.string).toArray ty)).drew).heap[w.heap.size]? = some (.cells (xs.map Value.string).toArray ty (0,0)):=heap_alloc_new w _
 rw [Lib.cell_of_heap h1]
 simp [hx]
theorem fC {i:Nat} (h:i<100):(Lib.decDigits i).length≤2:=by
 rw [Lib.decDigits]
 split
 ·simp
 ·rw [List.length_append]
  have:i / 10<10:=by omega
  rw [Lib.decDigits,dif_pos this]
  simp
theorem oq {P:Program} {t kt e:TypeId} {v0:Value} (ht:P.underlying t=some (.map kt e)) (hk:P.underlying kt=some .string) (hz:(P.info? e).bind (fun i=>i.zero)=some v0) {w:World} {b c:Nat} (hb:w.heap[b]? = some (.map #[] c)) (s:ByteArray) :
  (Instr.lookup t (.map (some b)) (.string s) true).run P w=.ok (.tuple #[v0,.bool false]) w:=by
 obtain ⟨i,hi,h0⟩:=Option.bind_eq_some_iff.1 hz
 have hkey:MapKept.IsKey .string (.string s):=trivial
 have g:Instr.findNow .string (.string s) (#[]:Array MapEntry).toList 0=some none:=rfl
 simp [Instr.lookup,run_underlying ht,MapKept.run_getObj_map hb,MapKept.run_checkKey hk hkey,MapKept.run_findKey hk g,Result.andThen,zeroValue,run_typeInfo w hi,h0]
theorem look_hit {P:Program} {t kt e:TypeId} (ht:P.underlying t=some (.map kt e)) (hk:P.underlying kt=some .string) {w:World} {b c:Nat} {en:MapEntry} (hb:w.heap[b]? = some (.map #[en] c)) {s:ByteArray} (hs:en.key=.string s) :
  (Instr.lookup t (.map (some b)) (.string s) true).run P w=.ok (.tuple #[en.val,.bool true]) w:=by
 have hkey:MapKept.IsKey .string (.string s):=trivial
 have hn:Instr.sameNow .string (.string s) (.string s)=some true:=by
  obtain ⟨r,g1,g2⟩:=MapKept.sameNow_of_keys (d:=.string) (a:=.string s) (b:=.string s) trivial trivial
  rw [g1,g2.2 rfl]
 have g:Instr.findNow .string (.string s) (#[en]:Array MapEntry).toList 0=some (some (0,en.val)):=by
  simp [Instr.findNow,hs,hn]
 simp [Instr.lookup,run_underlying ht,MapKept.run_getObj_map hb,MapKept.run_checkKey hk hkey,MapKept.run_findKey hk g,Result.andThen]
theorem wp_loop_two {P:Program} {c:Code} {Q:Exit→Act→World→Prop} {a:Act} {w:World}
  (h:c.wp P (Exit.then (fun a1 w1=>c.wp P (Exit.then (fun _ _=>False) Q) a1 w1) Q) a w):(Code.loop c).wp P Q a w:=by
 classical
 refine wp_loop (fun a' w'=>c.wp P (Exit.then (fun _ _=>False) Q) a' w'∨c.wp P (Exit.then (fun a1 w1=>c.wp P (Exit.then (fun _ _=>False) Q) a1 w1) Q) a' w')
  (fun a' w'=>if c.wp P (Exit.then (fun _ _=>False) Q) a' w' then 0 else 1) (.inr h) fun a' w' hI=>?_
 by_cases h0:c.wp P (Exit.then (fun _ _=>False) Q) a' w'
 ·exact Code.wp_mono (fun e a w q=>by cases e<;>first | exact q | exact q.elim) h0
 ·rcases hI with h1 | h1
  ·exact absurd h1 h0
  ·refine Code.wp_mono (fun e a w q=>?_) h1
   cases e<;>first | exact q | skip
   have q':c.wp P (Exit.then (fun _ _=>False) Q) a w:=q
   refine ⟨.inl q',?_⟩
   rw [if_neg h0,if_pos q']
   exact Nat.zero_lt_one
def Mid (w:World) (l:List UInt8) (W:World):Prop:=Lib.IsBuilder 132 5 w.heap.size w.heap.size (Lib.byteCells l) W∧Below w.heap.size w W
theorem line_at (w W:World) (l:List UInt8) (xs:List ByteArray) (A:Array Value) (ty:TypeId) (hM:Mid w l W) (hA:A=(xs.map Value.string).toArray) (hN:xs.length≤1000)
  (hlen:l.length+(Lib.join (xs.map (·.data.toList)) [32]).length+1≤1000000) :
  Calls Tryz.prog 139 #[.slice (some ⟨W.heap.size,0,none⟩) xs.length xs.length,.pointer (some ⟨w.heap.size,0,none⟩)] ((W.alloc (.cells A ty)).drew) fun e w'=>e=.returned (.tuple #[])∧Mid w (l++(Lib.join (xs.map (·.data.toList)) [32]++[10])) w':=by
 have hb:Below W.heap.size W ((W.alloc (.cells A ty)).drew):=((Below.refl _ _).alloc (Nat.le_refl _) _).drew
 refine (Tryz.line139 w.heap.size w.heap.size l xs W.heap.size 0 xs.length _ (ki hM.1 hb) (Nat.le_trans hM.2.size hb.size) (oR W xs A ty hA) (by show W.heap.size<(W.alloc _).heap.size;rw [World.size_alloc];omega) (Nat.le_refl _) hN hlen).mono ?_
 rintro e w' ⟨rfl,h1,h2⟩
 exact ⟨rfl,h1,(hM.2.trans ⟨hb.os,hb.tape,hb.output,hb.size,fun k hk=>hb.block k (Nat.lt_of_lt_of_le hk hM.2.size)⟩).trans h2⟩
theorem mw (w W:World) (l:List UInt8) (xs:List ByteArray) (A:Array Value) (ty:TypeId) (hM:Mid w l W) (hA:A=(xs.map Value.string).toArray) (hN:xs.length≤1000)
  (hlen:l.length+(Lib.join (xs.map (·.data.toList)) [32]).length+1≤1000000) :
  Calls Tryz.prog 139 #[.slice (some ⟨W.heap.size,0,none⟩) xs.length xs.length,.pointer (some ⟨w.heap.size,0,none⟩)] (W.alloc (.cells A ty)) fun e w'=>e=.returned (.tuple #[])∧Mid w (l++(Lib.join (xs.map (·.data.toList)) [32]++[10])) w':=by
 have hb:Below W.heap.size W (W.alloc (.cells A ty)):=(Below.refl _ _).alloc (Nat.le_refl _) _
 refine (Tryz.line139 w.heap.size w.heap.size l xs W.heap.size 0 xs.length _ (ki hM.1 hb) (Nat.le_trans hM.2.size hb.size) (oR W xs A ty hA) (by show W.heap.size<(W.alloc _).heap.size;rw [World.size_alloc];omega) (Nat.le_refl _) hN hlen).mono ?_
 rintro e w' ⟨rfl,h1,h2⟩
 exact ⟨rfl,h1,(hM.2.trans ⟨hb.os,hb.tape,hb.output,hb.size,fun k hk=>hb.block k (Nat.lt_of_lt_of_le hk hM.2.size)⟩).trans h2⟩
def imgT (k steps made v:Nat) (nm:ByteArray):List UInt8:=
 []++(Lib.join ([⟨#[105,109,97,103,101]⟩,⟨(Lib.decDigits k).toArray⟩,⟨(Lib.decDigits steps).toArray⟩,⟨(Lib.decDigits made).toArray⟩].map fun x:ByteArray=>x.data.toList) [32]++[10])
  ++ (Lib.join ([⟨#[111,117,116]⟩,⟨(Lib.decDigits 0).toArray⟩].map fun x:ByteArray=>x.data.toList) [32]++[10])
  ++ (Lib.join ([⟨#[105,110,116]⟩,nm,⟨(Lib.decDigits v).toArray⟩].map fun x:ByteArray=>x.data.toList) [32]++[10])
  ++ (Lib.join ([⟨#[101,110,100]⟩].map fun x:ByteArray=>x.data.toList) [32]++[10])
theorem Tryz.text87 (b o steps made v k:Nat) (nm:ByteArray) (w:World) (h:TextAt w b o steps made nm v) (h1:steps<100) (h2:made<100) (h3:v<100) (h4:k<100) (hnm:nm.size≤1000) :
  Calls Tryz.prog 87 #[.pointer (some ⟨b,o,none⟩),.int .i64 k] w fun e w'=>e=.returned (.string ⟨(imgT k steps made v nm).toArray⟩)∧Below w.heap.size w w':=by
 obtain ⟨b1,o1,t20,t30⟩:=h.first
 have l0:=fC (i:=0) (by omega)
 have l1:=fC h4
 have l2:=fC h1
 have l3:=fC h2
 have l4:=fC h3
 have j1:([]:List UInt8).length+(Lib.join ([⟨#[105,109,97,103,101]⟩,⟨(Lib.decDigits k).toArray⟩,⟨(Lib.decDigits steps).toArray⟩,⟨(Lib.decDigits made).toArray⟩].map fun x:ByteArray=>x.data.toList) [32]).length+1≤1000000:=by
  simp [Lib.join];omega
 go_enter Tryz.func87,Tryz.ntmps87
 go_wp2_with fail
 obtain ⟨w1,hw1⟩:∃ w1,w.alloc (Obj.cells #[Value.pointer none,Value.slice none 0 0] 132)=w1:=⟨_,rfl⟩
 have M1:Mid w [] w1:=by rw [← hw1];exact ⟨Lib.fresh_isBuilder 132 5 w,(Below.refl _ _).alloc (Nat.le_refl _) _⟩
 have L1:=M1.2
 rw [hw1]
 clear hw1
 have S_of:∀ W:World,Below w.heap.size w W→W.cell? ⟨b,o+4,none⟩=some (.int .i64 steps)∧W.cell? ⟨b,o+20,none⟩=some (.pointer (some ⟨b1,o1,none⟩))∧W.cell? ⟨b1,o1+2,none⟩=some (.int .i64 made):=fun W hW=>
  ⟨bG hW h.steps,bG hW t20,bG hW t30⟩
 go_region_held3 (fun W=>W.cell? ⟨b,o+4,none⟩=some (.int .i64 steps)∧W.cell? ⟨b,o+20,none⟩=some (.pointer (some ⟨b1,o1,none⟩))∧W.cell? ⟨b1,o1+2,none⟩=some (.int .i64 made))
  (first | exact S_of _ L1.drew | exact S_of _ ((L1.alloc L1.size _).drew) | exact S_of _ (‹Mid w _ _›.2) | (trace_state;fail))
  (first | (go_at_call 98;refine (Tryz.strconv_Itoa_small _ (by assumption) _).mono ?_;rintro e w' ⟨rfl,rfl⟩) | (go_at_call 140;refine (Tryz.made140 b o b1 o1 made _ (by simp [*]) (by simp [*])).mono ?_;rintro e w' ⟨rfl,rfl⟩) | (go_at_call 139;refine (line_at w w1 [] [⟨#[105,109,97,103,101]⟩,⟨(Lib.decDigits k).toArray⟩,⟨(Lib.decDigits steps).toArray⟩,⟨(Lib.decDigits made).toArray⟩] _ _ M1 rfl (by simp) j1).mono ?_;rintro e w2 ⟨rfl,M2⟩))
 obtain ⟨ao,co,t5⟩:=h.out
 have u5:=bG M2.2 t5
 obtain ⟨b2,o2,c2,t13,hc2,t14⟩:=h.order
 obtain ⟨b3,c3,t8,e8⟩:=h.doms
 obtain ⟨b4,c4,t9,e9⟩:=h.arrs
 obtain ⟨b5,c5,en,b6,o6,t12,e12,ek,ev,t60,t63⟩:=h.glob
 generalize hl2:([]:List UInt8)++_=l2' at M2
 have j2:l2'.length+(Lib.join ([⟨#[111,117,116]⟩,⟨(Lib.decDigits 0).toArray⟩].map fun x:ByteArray=>x.data.toList) [32]).length+1≤1000000:=by
  rw [← hl2];simp [Lib.join];omega
 go_wp2_with (first | (go_at_call 98;refine (Tryz.strconv_Itoa_small 0 (by omega) _).mono ?_;rintro e w' ⟨rfl,rfl⟩) | (go_at_call 139;refine (mw w _ l2' [⟨#[111,117,116]⟩,⟨(Lib.decDigits 0).toArray⟩] _ _ M2 rfl (by simp) j2).mono ?_;rintro e w3 ⟨rfl,M3⟩;have v5:=bG M3.2 t5;have v13:=bG M3.2 t13;have v14:=bG M3.2 t14;have v8:=bG M3.2 t8;have v9:=bG M3.2 t9;have v12:=bG M3.2 t12;have v60:=bG M3.2 t60;have v63:=bG M3.2 t63;have f8:=(M3.2.block b3 (lE e8)).trans e8;have f9:=(M3.2.block b4 (lE e9)).trans e9;have f12:=(M3.2.block b5 (lE e12)).trans e12))
 have k8:=oq (P:=Tryz.prog) (t:=100) (kt:=9) (e:=239) (v0:=.pointer none) (by kernel_rfl) (by kernel_rfl) (by kernel_rfl) f8 nm
 have k9:=oq (P:=Tryz.prog) (t:=101) (kt:=9) (e:=248) (v0:=.pointer none) (by kernel_rfl) (by kernel_rfl) (by kernel_rfl) f9 nm
 have k12:=look_hit (P:=Tryz.prog) (t:=102) (kt:=9) (e:=252) (by kernel_rfl) (by kernel_rfl) f12 ek
 rw [ev] at k12
 generalize hl3:l2'++_=l3' at M3
 have j3:l3'.length+(Lib.join ([⟨#[105,110,116]⟩,nm,⟨(Lib.decDigits v).toArray⟩].map fun x:ByteArray=>x.data.toList) [32]).length+1≤1000000:=by
  have:nm.data.toList.length=nm.size:=rfl
  rw [← hl3,← hl2];simp [Lib.join] at this ⊢;omega
 refine wp_loop_once ?_
 go_wp2_with fail
 refine wp_loop_two ?_
 go_wp2_with (first | (go_at_call 98;refine (Tryz.strconv_Itoa_small v h3 _).mono ?_;rintro e w' ⟨rfl,rfl⟩) | (go_at_call 139;refine (mw w _ l3' [⟨#[105,110,116]⟩,nm,⟨(Lib.decDigits v).toArray⟩] _ _ M3 rfl (by simp) j3).mono ?_;rintro e w4 ⟨rfl,M4⟩))
 generalize hl4:l3'++_=l4' at M4
 have j4:l4'.length+(Lib.join ([⟨#[101,110,100]⟩].map fun x:ByteArray=>x.data.toList) [32]).length+1≤1000000:=by
  have:nm.data.toList.length=nm.size:=rfl
  rw [← hl4,← hl3,← hl2];simp [Lib.join] at this ⊢;omega
 refine (mw w _ l4' [⟨#[101,110,100]⟩] _ _ M4 rfl (by simp) j4).mono ?_
 rintro e w5 ⟨rfl,M5⟩
 go_wp2_with (go_at_call 57;refine (Tryz.Builder_String_any w.heap.size w.heap.size _ _ M5.1 M5.2.size).mono ?_;rintro e w6 ⟨rfl,hb6⟩)
 go_ret
 exact ⟨by rw [← hl4,← hl3,← hl2];rfl,M5.2.trans hb6⟩
end Go.Proofs
