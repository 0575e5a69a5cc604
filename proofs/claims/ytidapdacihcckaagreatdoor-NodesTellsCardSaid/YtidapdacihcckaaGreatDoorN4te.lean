/- strconv.Itoa: the library's proved contract, laid at this program. -/
import Derived.Test.YtidapdacihcckaaGreatDoorTte
import Derived.Shelf.Strconv.Itoa3
import Derived.Lib.ItoaMem
set_option linter.unusedVariables false
set_option linter.unusedSimpArgs false
namespace Go.Cb
open Go Go.Shelf Go.Proofs Go.RowKit
def itoaRen : Ren := ⟨fun | 171 => 60 | 243 => 72 | 246 => 82 | 283 => 90 | 284 => 91 | 285 => 92 | 286 => 93 | 129 => 99 | 317 => 98 | 318 => 100 | 319 => 101 | 320 => 102 | 337 => 103 | 338 => 104 | n => n, fun | 3 => 3 | 9 => 9 | 2 => 2 | 4 => 4 | 171 => 91 | 0 => 0 | 53 => 92 | 37 => 85 | 5 => 5 | 173 => 95 | 212 => 100 | 51 => 101 | 20 => 20 | 213 => 102 | 46 => 79 | 232 => 106 | 233 => 107 | n => n, fun | 17 => 1 | 18 => 2 | 19 => 3 | n => n⟩
theorem itoaLays : LaysM.n171 Tryz.prog itoaRen where
  mixed := by kernel_rfl
  f129 := Tryz.func99.trans (congrArg some (by kernel_rfl))
  f171 := Tryz.func60.trans (congrArg some (by kernel_rfl))
  f243 := Tryz.func72.trans (congrArg some (by kernel_rfl))
  f246 := Tryz.func82.trans (congrArg some (by kernel_rfl))
  f283 := Tryz.func90.trans (congrArg some (by kernel_rfl))
  f284 := Tryz.func91.trans (congrArg some (by kernel_rfl))
  f285 := Tryz.func92.trans (congrArg some (by kernel_rfl))
  f286 := Tryz.func93.trans (congrArg some (by kernel_rfl))
  f317 := Tryz.func98.trans (congrArg some (by kernel_rfl))
  f318 := Tryz.func100.trans (congrArg some (by kernel_rfl))
  f319 := Tryz.func101.trans (congrArg some (by kernel_rfl))
  f320 := Tryz.func102.trans (congrArg some (by kernel_rfl))
  f337 := Tryz.func103.trans (congrArg some (by kernel_rfl))
  f338 := Tryz.func104.trans (congrArg some (by kernel_rfl))
  t0 := Tryz.underlying0
  a0 := Tryz.isAgg0
  z0 := Tryz.sizeOf0
  v0 := Tryz.zeroValue0
  t2 := Tryz.underlying2
  a2 := Tryz.isAgg2
  z2 := Tryz.sizeOf2
  v2 := Tryz.zeroValue2
  t3 := Tryz.underlying3
  a3 := Tryz.isAgg3
  z3 := Tryz.sizeOf3
  v3 := Tryz.zeroValue3
  t4 := Tryz.underlying4
  a4 := Tryz.isAgg4
  z4 := Tryz.sizeOf4
  v4 := Tryz.zeroValue4
  t5 := Tryz.underlying5
  a5 := Tryz.isAgg5
  z5 := Tryz.sizeOf5
  v5 := Tryz.zeroValue5
  t9 := Tryz.underlying9
  a9 := Tryz.isAgg9
  z9 := Tryz.sizeOf9
  v9 := Tryz.zeroValue9
  t20 := Tryz.underlying20
  a20 := Tryz.isAgg20
  z20 := Tryz.sizeOf20
  v20 := Tryz.zeroValue20
  t37 := Tryz.underlying85
  a37 := Tryz.isAgg85
  z37 := Tryz.sizeOf85
  v37 := Tryz.zeroValue85
  t46 := Tryz.underlying79
  a46 := Tryz.isAgg79
  z46 := Tryz.sizeOf79
  v46 := Tryz.zeroValue79
  t51 := Tryz.underlying101
  a51 := Tryz.isAgg101
  z51 := Tryz.sizeOf101
  v51 := Tryz.zeroValue101
  t53 := Tryz.underlying92
  a53 := Tryz.isAgg92
  z53 := Tryz.sizeOf92
  v53 := Tryz.zeroValue92
  t171 := Tryz.underlying91
  a171 := Tryz.isAgg91
  z171 := Tryz.sizeOf91
  v171 := Tryz.zeroValue91
  t173 := Tryz.underlying95
  a173 := Tryz.isAgg95
  z173 := Tryz.sizeOf95
  v173 := Tryz.zeroValue95
  t212 := Tryz.underlying100
  a212 := Tryz.isAgg100
  z212 := Tryz.sizeOf100
  v212 := Tryz.zeroValue100
  t213 := Tryz.underlying102
  a213 := Tryz.isAgg102
  z213 := Tryz.sizeOf102
  t232 := Tryz.underlying106
  a232 := Tryz.isAgg106
  z232 := Tryz.sizeOf106
  v232 := Tryz.zeroValue106
  t233 := Tryz.underlying107
  a233 := Tryz.isAgg107
  z233 := Tryz.sizeOf107
  v233 := Tryz.zeroValue107
  g17 := by kernel_rfl
  g18 := by kernel_rfl
  g19 := by kernel_rfl
  i0 := by kernel_rfl
  i2 := by kernel_rfl
  i3 := by kernel_rfl
  i4 := by kernel_rfl
  i5 := by kernel_rfl
  i9 := by kernel_rfl
  i20 := by kernel_rfl
  i37 := by kernel_rfl
  i46 := by kernel_rfl
  i51 := by kernel_rfl
  i53 := by kernel_rfl
  i171 := by kernel_rfl
  i173 := by kernel_rfl
  i212 := by kernel_rfl
  i232 := by kernel_rfl
  i233 := by kernel_rfl
  m17 := by kernel_rfl
  m18 := by kernel_rfl
  m19 := by kernel_rfl
def tabName : String := "internal/strconv.uint64pow10"
/-- the library's table lies where it lay. -/
def rTab (P : Program) : Rp where
  p w ok := (∃ g, P.globalNamed tabName = some g ∧ ok g) ∧ Lib.TabIs P w tabName .u64 Lib.pow10Tab
  keep := by
    rintro w w' ok ok' ⟨⟨g, hg, ho⟩, ht⟩ k hk
    have hlt : g < w.heap.size := by
      unfold Lib.TabIs World.var? at ht
      rw [hg] at ht
      simp only [Option.bind_some] at ht
      rcases Nat.lt_or_ge g w.heap.size with h | h
      · exact h
      · rw [Array.getElem?_eq_none h] at ht; cases ht
    refine ⟨⟨g, hg, hk g hlt ho⟩, ?_⟩
    unfold Lib.TabIs World.var? at ht ⊢
    rw [hg] at ht ⊢
    simp only [Option.bind_some] at ht ⊢
    rw [k.block g hlt ho]
    exact ht
theorem kp_grow (w : World) (k : Nat) (os : Array Obj) : Kp (fun _ => True) w (Sort.grow (w.drewN k) os) := by
  refine ⟨rfl, rfl, rfl, ?_, fun b hb _ => ?_⟩
  · show w.heap.size ≤ (w.heap ++ os).size
    rw [Array.size_append]; omega
  · show (w.heap ++ os)[b]? = w.heap[b]?
    rw [Array.getElem?_append_left hb]
theorem itoa_c {w : World} {os : List Ob} {rs : List Rp} (H : Sep w os rs) (hT : rTab Tryz.prog ∈ rs) (n : Int) (hn : -9223372036854775808 ≤ n ∧ n ≤ 9223372036854775807) :
    Calls Tryz.prog 60 [.int .i64 n].toArray w (Ret fun v' w' => v' = .string ⟨(Lib.itoa n).toArray⟩ ∧ Sep w' os rs) := by
  have ht : Lib.TabIs Tryz.prog w tabName .u64 Lib.pow10Tab := by
    obtain ⟨col, _, h2⟩ := H
    exact (h2 _ hT).2
  refine (Any.strconv_Itoa itoaLays n hn.1 hn.2 w ht).mono ?_
  rintro e w' ⟨rfl, k, os', rfl⟩
  exact ⟨rfl, H.kept (kp_grow w k os')⟩
end Go.Cb
