/- strconv.Itoa: the library's proved contract, laid at this program. -/
import Derived.Test.YtgdfoajophpblaaGreatDoorTpx
import Derived.Shelf.Strconv.Itoa3
import Derived.Lib.ItoaMem
set_option linter.unusedVariables false
set_option linter.unusedSimpArgs false
namespace Go.Cb
open Go Go.Shelf Go.Proofs Go.RowKit
def itoaRen : Ren := ⟨fun | 171 => 150 | 243 => 179 | 246 => 195 | 283 => 204 | 284 => 205 | 285 => 206 | 286 => 207 | 129 => 176 | 317 => 213 | 318 => 214 | 319 => 215 | 320 => 216 | 337 => 217 | 338 => 218 | n => n, fun | 3 => 3 | 9 => 9 | 2 => 2 | 4 => 4 | 171 => 196 | 0 => 0 | 53 => 175 | 37 => 181 | 5 => 5 | 173 => 198 | 212 => 204 | 51 => 173 | 20 => 20 | 213 => 205 | 46 => 152 | 232 => 207 | 233 => 208 | n => n, fun | 17 => 1 | 18 => 2 | 19 => 3 | n => n⟩
theorem itoaLays : LaysM.n171 Tryz.prog itoaRen where
  mixed := by kernel_rfl
  f129 := Tryz.func176.trans (congrArg some (by kernel_rfl))
  f171 := Tryz.func150.trans (congrArg some (by kernel_rfl))
  f243 := Tryz.func179.trans (congrArg some (by kernel_rfl))
  f246 := Tryz.func195.trans (congrArg some (by kernel_rfl))
  f283 := Tryz.func204.trans (congrArg some (by kernel_rfl))
  f284 := Tryz.func205.trans (congrArg some (by kernel_rfl))
  f285 := Tryz.func206.trans (congrArg some (by kernel_rfl))
  f286 := Tryz.func207.trans (congrArg some (by kernel_rfl))
  f317 := Tryz.func213.trans (congrArg some (by kernel_rfl))
  f318 := Tryz.func214.trans (congrArg some (by kernel_rfl))
  f319 := Tryz.func215.trans (congrArg some (by kernel_rfl))
  f320 := Tryz.func216.trans (congrArg some (by kernel_rfl))
  f337 := Tryz.func217.trans (congrArg some (by kernel_rfl))
  f338 := Tryz.func218.trans (congrArg some (by kernel_rfl))
  t0 := Tryz.underlying0
  a0 := Tryz.isAgg0
  z0 := Tryz.sizeOf0
  v0 := Tryz.zeroValue0
  t2 := Tryz.underlying2
  a2 := Tryz.isAgg2
  z2 := Tryz.sizeOf2
  v2 := Tryz.zeroValue2
  t3 := Tryz.underlying3
  a3 := Tryz.isAgg3
  z3 := Tryz.sizeOf3
  v3 := Tryz.zeroValue3
  t4 := Tryz.underlying4
  a4 := Tryz.isAgg4
  z4 := Tryz.sizeOf4
  v4 := Tryz.zeroValue4
  t5 := Tryz.underlying5
  a5 := Tryz.isAgg5
  z5 := Tryz.sizeOf5
  v5 := Tryz.zeroValue5
  t9 := Tryz.underlying9
  a9 := Tryz.isAgg9
  z9 := Tryz.sizeOf9
  v9 := Tryz.zeroValue9
  t20 := Tryz.underlying20
  a20 := Tryz.isAgg20
  z20 := Tryz.sizeOf20
  v20 := Tryz.zeroValue20
  t37 := Tryz.underlying181
  a37 := Tryz.isAgg181
  z37 := Tryz.sizeOf181
  v37 := Tryz.zeroValue181
  t46 := Tryz.underlying152
  a46 := Tryz.isAgg152
  z46 := Tryz.sizeOf152
  v46 := Tryz.zeroValue152
  t51 := Tryz.underlying173
  a51 := Tryz.isAgg173
  z51 := Tryz.sizeOf173
  v51 := Tryz.zeroValue173
  t53 := Tryz.underlying175
  a53 := Tryz.isAgg175
  z53 := Tryz.sizeOf175
  v53 := Tryz.zeroValue175
  t171 := Tryz.underlying196
  a171 := Tryz.isAgg196
  z171 := Tryz.sizeOf196
  v171 := Tryz.zeroValue196
  t173 := Tryz.underlying198
  a173 := Tryz.isAgg198
  z173 := Tryz.sizeOf198
  v173 := Tryz.zeroValue198
  t212 := Tryz.underlying204
  a212 := Tryz.isAgg204
  z212 := Tryz.sizeOf204
  v212 := Tryz.zeroValue204
  t213 := Tryz.underlying205
  a213 := Tryz.isAgg205
  z213 := Tryz.sizeOf205
  t232 := Tryz.underlying207
  a232 := Tryz.isAgg207
  z232 := Tryz.sizeOf207
  v232 := Tryz.zeroValue207
  t233 := Tryz.underlying208
  a233 := Tryz.isAgg208
  z233 := Tryz.sizeOf208
  v233 := Tryz.zeroValue208
  g17 := by kernel_rfl
  g18 := by kernel_rfl
  g19 := by kernel_rfl
  i0 := by kernel_rfl
  i2 := by kernel_rfl
  i3 := by kernel_rfl
  i4 := by kernel_rfl
  i5 := by kernel_rfl
  i9 := by kernel_rfl
  i20 := by kernel_rfl
  i37 := by kernel_rfl
  i46 := by kernel_rfl
  i51 := by kernel_rfl
  i53 := by kernel_rfl
  i171 := by kernel_rfl
  i173 := by kernel_rfl
  i212 := by kernel_rfl
  i232 := by kernel_rfl
  i233 := by kernel_rfl
  m17 := by kernel_rfl
  m18 := by kernel_rfl
  m19 := by kernel_rfl
def tabName : String := "internal/strconv.uint64pow10"
/-- the library's table lies where it lay. -/
def rTab (P : Program) : Rp where
  p w ok := (∃ g, P.globalNamed tabName = some g ∧ ok g) ∧ Lib.TabIs P w tabName .u64 Lib.pow10Tab
  keep := by
    rintro w w' ok ok' ⟨⟨g, hg, ho⟩, ht⟩ k hk
    have hlt : g < w.heap.size := by
      unfold Lib.TabIs World.var? at ht
      rw [hg] at ht
      simp only [Option.bind_some] at ht
      rcases Nat.lt_or_ge g w.heap.size with h | h
      · exact h
      · rw [Array.getElem?_eq_none h] at ht; cases ht
    refine ⟨⟨g, hg, hk g hlt ho⟩, ?_⟩
    unfold Lib.TabIs World.var? at ht ⊢
    rw [hg] at ht ⊢
    simp only [Option.bind_some] at ht ⊢
    rw [k.block g hlt ho]
    exact ht
theorem kp_grow (w : World) (k : Nat) (os : Array Obj) : Kp (fun _ => True) w (Sort.grow (w.drewN k) os) := by
  refine ⟨rfl, rfl, rfl, ?_, fun b hb _ => ?_⟩
  · show w.heap.size ≤ (w.heap ++ os).size
    rw [Array.size_append]; omega
  · show (w.heap ++ os)[b]? = w.heap[b]?
    rw [Array.getElem?_append_left hb]
theorem itoa_c {w : World} {os : List Ob} {rs : List Rp} (H : Sep w os rs) (hT : rTab Tryz.prog ∈ rs) (n : Int) (hn : -9223372036854775808 ≤ n ∧ n ≤ 9223372036854775807) :
    Calls Tryz.prog 150 [.int .i64 n].toArray w (Ret fun v' w' => v' = .string ⟨(Lib.itoa n).toArray⟩ ∧ Sep w' os rs) := by
  have ht : Lib.TabIs Tryz.prog w tabName .u64 Lib.pow10Tab := by
    obtain ⟨col, _, h2⟩ := H
    exact (h2 _ hT).2
  refine (Any.strconv_Itoa itoaLays n hn.1 hn.2 w ht).mono ?_
  rintro e w' ⟨rfl, k, os', rfl⟩
  exact ⟨rfl, H.kept (kp_grow w k os')⟩
end Go.Cb
