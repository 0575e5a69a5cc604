/- slices.SortFunc: the library's proved contract, laid at this program, at nodes. -/
import Derived.Test.YtgdfoajophpblaaGreatDoorTpx
import Derived.Test.YtgdfoajophpblaaGreatDoorB31px
import Derived.Shelf.SlSortCmp.WholeK
set_option linter.unusedVariables false
set_option linter.unusedSimpArgs false
set_option maxRecDepth 20000
set_option maxHeartbeats 1000000
namespace Go.Cb
open Go Go.Shelf Go.Proofs Go.RowKit Go.Sort
def sortRen : Ren := ⟨fun | 6 => 106 | 15 => 147 | 14 => 146 | 28 => 175 | 29 => 176 | 20 => 167 | 21 => 168 | 22 => 169 | 23 => 170 | 24 => 171 | 25 => 172 | 26 => 173 | 27 => 174 | 46 => 189 | 47 => 190 | 48 => 191 | 49 => 192 | 50 => 193 | 57 => 203 | n => n, fun | 22 => 22 | 24 => 80 | 25 => 120 | 3 => 3 | 39 => 152 | 0 => 0 | 53 => 173 | 55 => 175 | 4 => 4 | 46 => 167 | 45 => 166 | 50 => 85 | 5 => 5 | 9 => 9 | 66 => 182 | 70 => 186 | 76 => 193 | 77 => 194 | n => n, fun n => n⟩
theorem sortLays : SlLaysF0.n6 Tryz.prog sortRen where
  mixed := by kernel_rfl
  f6 := ⟨"slices.SortFunc[[]canton/api.Node,canton/api.Node]", by kernel_rfl, Tryz.func106.trans (congrArg some (by kernel_rfl))⟩
  f14 := ⟨"slices.pdqsortCmpFunc[canton/api.Node]", by kernel_rfl, Tryz.func146.trans (congrArg some (by kernel_rfl))⟩
  f15 := Tryz.func147.trans (congrArg some (by kernel_rfl))
  f20 := ⟨"slices.insertionSortCmpFunc[canton/api.Node]", by kernel_rfl, Tryz.func167.trans (congrArg some (by kernel_rfl))⟩
  f21 := ⟨"slices.heapSortCmpFunc[canton/api.Node]", by kernel_rfl, Tryz.func168.trans (congrArg some (by kernel_rfl))⟩
  f22 := ⟨"slices.breakPatternsCmpFunc[canton/api.Node]", by kernel_rfl, Tryz.func169.trans (congrArg some (by kernel_rfl))⟩
  f23 := ⟨"slices.choosePivotCmpFunc[canton/api.Node]", by kernel_rfl, Tryz.func170.trans (congrArg some (by kernel_rfl))⟩
  f24 := ⟨"slices.reverseRangeCmpFunc[canton/api.Node]", by kernel_rfl, Tryz.func171.trans (congrArg some (by kernel_rfl))⟩
  f25 := ⟨"slices.partialInsertionSortCmpFunc[canton/api.Node]", by kernel_rfl, Tryz.func172.trans (congrArg some (by kernel_rfl))⟩
  f26 := ⟨"slices.partitionEqualCmpFunc[canton/api.Node]", by kernel_rfl, Tryz.func173.trans (congrArg some (by kernel_rfl))⟩
  f27 := ⟨"slices.partitionCmpFunc[canton/api.Node]", by kernel_rfl, Tryz.func174.trans (congrArg some (by kernel_rfl))⟩
  f28 := Tryz.func175.trans (congrArg some (by kernel_rfl))
  f29 := Tryz.func176.trans (congrArg some (by kernel_rfl))
  f46 := ⟨"slices.siftDownCmpFunc[canton/api.Node]", by kernel_rfl, Tryz.func189.trans (congrArg some (by kernel_rfl))⟩
  f47 := Tryz.func190.trans (congrArg some (by kernel_rfl))
  f48 := Tryz.func191.trans (congrArg some (by kernel_rfl))
  f49 := ⟨"slices.medianAdjacentCmpFunc[canton/api.Node]", by kernel_rfl, Tryz.func192.trans (congrArg some (by kernel_rfl))⟩
  f50 := ⟨"slices.medianCmpFunc[canton/api.Node]", by kernel_rfl, Tryz.func193.trans (congrArg some (by kernel_rfl))⟩
  f57 := ⟨"slices.order2CmpFunc[canton/api.Node]", by kernel_rfl, Tryz.func203.trans (congrArg some (by kernel_rfl))⟩
  t0 := Tryz.underlying0
  a0 := Tryz.isAgg0
  z0 := Tryz.sizeOf0
  v0 := Tryz.zeroValue0
  t3 := Tryz.underlying3
  a3 := Tryz.isAgg3
  z3 := Tryz.sizeOf3
  v3 := Tryz.zeroValue3
  t4 := Tryz.underlying4
  a4 := Tryz.isAgg4
  z4 := Tryz.sizeOf4
  v4 := Tryz.zeroValue4
  t5 := Tryz.underlying5
  a5 := Tryz.isAgg5
  z5 := Tryz.sizeOf5
  v5 := Tryz.zeroValue5
  t9 := Tryz.underlying9
  a9 := Tryz.isAgg9
  z9 := Tryz.sizeOf9
  v9 := Tryz.zeroValue9
  t22 := Tryz.underlying22
  a22 := Tryz.isAgg22
  z22 := Tryz.sizeOf22
  v22 := Tryz.zeroValue22
  t25 := Tryz.underlying120
  a25 := Tryz.isAgg120
  z25 := Tryz.sizeOf120
  v25 := Tryz.zeroValue120
  t39 := Tryz.underlying152
  a39 := Tryz.isAgg152
  z39 := Tryz.sizeOf152
  v39 := Tryz.zeroValue152
  t45 := Tryz.underlying166
  a45 := Tryz.isAgg166
  z45 := Tryz.sizeOf166
  v45 := Tryz.zeroValue166
  t46 := Tryz.underlying167
  a46 := Tryz.isAgg167
  z46 := Tryz.sizeOf167
  v46 := Tryz.zeroValue167
  t50 := Tryz.underlying85
  a50 := Tryz.isAgg85
  z50 := Tryz.sizeOf85
  v50 := Tryz.zeroValue85
  t53 := Tryz.underlying173
  a53 := Tryz.isAgg173
  z53 := Tryz.sizeOf173
  v53 := Tryz.zeroValue173
  t55 := Tryz.underlying175
  a55 := Tryz.isAgg175
  z55 := Tryz.sizeOf175
  v55 := Tryz.zeroValue175
  t66 := Tryz.underlying182
  a66 := Tryz.isAgg182
  z66 := Tryz.sizeOf182
  v66 := Tryz.zeroValue182
  t70 := Tryz.underlying186
  a70 := Tryz.isAgg186
  z70 := Tryz.sizeOf186
  v70 := Tryz.zeroValue186
  t76 := Tryz.underlying193
  a76 := Tryz.isAgg193
  z76 := Tryz.sizeOf193
  v76 := Tryz.zeroValue193
  t77 := Tryz.underlying194
  a77 := Tryz.isAgg194
  z77 := Tryz.sizeOf194
  v77 := Tryz.zeroValue194
theorem cfx_167 (w : World) (args : Array Value) : (callFunc 167 args).run Tryz.prog w = .ok (.enter 167 args) w := cf_of Tryz.func167 rfl (by kernel_rfl) args
theorem cfx_146 (w : World) (args : Array Value) : (callFunc 146 args).run Tryz.prog w = .ok (.enter 146 args) w := cf_of Tryz.func146 rfl (by kernel_rfl) args
theorem cfx_147 (w : World) (args : Array Value) : (callFunc 147 args).run Tryz.prog w = .ok (.enter 147 args) w := cf_of Tryz.func147 rfl (by kernel_rfl) args
theorem bcmp_x (s t : ByteArray) (W : World) : Calls Tryz.prog 148 [.string s, .string t].toArray W (Ret fun v w' => v = .int .i64 (Extern.BytealgCompare.cmp s t) ∧ w' = W) := by
 refine enter Tryz.func148 rfl Tryz.ntmps148 rfl fun a E =>?_
 simp only [enum, Nat.reduceAdd] at E
 refine sq<|pr 1 E rfl fun a E=>nx<|pr 2 E rfl fun a E=>sv E rfl rfl rfl (x_callX E rfl rfl (ext177 _ _ _)) fun a E=>pr 1 E rfl fun a E=>nt<|wp_ret<|out1 E rfl rfl<|?_
 exact ⟨rfl, rfl⟩
theorem scmp_x (s t : ByteArray) (W : World) : Calls Tryz.prog 108 [.string s, .string t].toArray W (Ret fun v w' => v = .int .i64 (Extern.BytealgCompare.cmp s t) ∧ w' = W) := by
 refine enter Tryz.func108 rfl Tryz.ntmps108 rfl fun a E =>?_
 simp only [enum, Nat.reduceAdd] at E
 refine sq<|pr 1 E rfl fun a E=>nx<|pr 2 E rfl fun a E=>x_cl E rfl rfl rfl rfl rfl (fun w args => cf_of Tryz.func148 rfl (by kernel_rfl) args) (bcmp_x s t W)<|?_
 rintro _ w ⟨rfl, rfl⟩ a E
 refine pr 1 E rfl fun a E=>nt<|wp_ret<|out1 E rfl rfl<|?_
 exact ⟨rfl, rfl⟩
theorem ret_x {P : Program} {f : FuncId} {args : Array Value} {w : World} {R : Value → World → Prop} (h : Calls P f args w (Ret R)) : Calls P f args w fun e w' => ∃ v, e = .returned v ∧ R v w' := h.mono fun e w' h => by
  cases e with
  | returned v => exact ⟨v, rfl, h⟩
  | _ => exact h.elim
theorem cmpN_x (x y : S_api_Node) (W : World) : Calls Tryz.prog 107 #[.agg (k_api_Node_flat.enc x).toArray, .agg (k_api_Node_flat.enc y).toArray] W fun e w' => e = .returned (.int .i64 (Extern.BytealgCompare.cmp x.Path y.Path)) ∧ ∃ q os', w' = Sort.grow (W.drewN q) os' := by
  have hcon : ∀ W', Calls Tryz.prog 108 #[.string x.Path, .string y.Path] W' fun e w' => e = .returned (.int .i64 (Extern.BytealgCompare.cmp x.Path y.Path)) ∧ w' = W' := fun W' => (ret_x (scmp_x x.Path y.Path W')).mono (by rintro _ _ ⟨v, rfl, rfl, rfl⟩; exact ⟨rfl, rfl⟩)
  generalize Extern.BytealgCompare.cmp x.Path y.Path = r at hcon ⊢
  cases x; cases y
  unfold k_api_Node_flat
  go_enter Tryz.func107, Tryz.ntmps107
  go_wp2_with (go_at_call 108; refine (hcon _).mono ?_; rintro e w' ⟨rfl, rfl⟩)
  go_ret
  exact ⟨rfl, 0, _, by rw [Sort.alloc_eq_grow, Sort.alloc_eq_grow, Sort.grow_grow]; rfl⟩
theorem len_x (w : World) : Calls Tryz.prog 147 [.int .u64 0].toArray w (Ret fun v w' => v = .int .i64 0 ∧ w' = w) := by
  have h := Any.bits_Len (SlLaysF0.n15.bits (P := Tryz.prog) (ρ := sortRen) { sortLays with }) 0 w (by omega) (by omega)
  refine h.mono ?_
  rintro e w' ⟨rfl, rfl⟩
  exact ⟨rfl, rfl⟩
theorem ins_nil {w : World} : Calls Tryz.prog 167 [.slice none 0 0, .int .i64 0, .int .i64 0, .func (.func 107) #[] #[]].toArray w (Ret fun v w' => v = .tuple #[] ∧ w' = w) := by
  refine enter Tryz.func167 rfl Tryz.ntmps167 rfl fun a E => ?_
  simp only [enum, Nat.reduceAdd] at E
  refine wp_seq ?_
  refine wp_region_lit ?_
  refine sv E rfl rfl rfl (x_move E rfl rfl) ?_
  clear a E;intro a E
  refine sv E rfl rfl rfl (x_bin E rfl rfl rfl rfl) ?_
  clear a E;intro a E
  refine sv E rfl rfl rfl (x_assign E rfl rfl) ?_
  clear a E;intro a E
  refine wpList_nil ?_
  refine q_then ?_
  refine wp_block ?_
  refine wp_loop (fun a' w' => Env _ a' _ ∧ w' = w) (fun _ _ => 0) ⟨E, rfl⟩ ?_
  clear E; clear a; rintro a w' ⟨E, rfl⟩
  refine wp_seq ?_
  refine wp_seq ?_
  refine wp_region_lit ?_
  refine sv E rfl rfl rfl (x_move E rfl rfl) ?_
  clear a E;intro a E
  refine sv E rfl rfl rfl (x_move E rfl rfl) ?_
  clear a E;intro a E
  refine sv E rfl rfl rfl (x_bin E rfl rfl rfl rfl) ?_
  clear a E;intro a E
  refine wpList_nil ?_
  refine q_then ?_
  refine wp_if E rfl (fun hb => absurd hb (by decide)) fun _ => ?_
  refine wp_exit ?_
  refine out0 E rfl ⟨rfl, rfl⟩
theorem pdq_nil {w : World} : Calls Tryz.prog 146 [.slice none 0 0, .int .i64 0, .int .i64 0, .int .i64 0, .func (.func 107) #[] #[]].toArray w (Ret fun v w' => v = .tuple #[] ∧ w' = w) := by
  refine enter Tryz.func146 rfl Tryz.ntmps146 rfl fun a E => ?_
  simp only [enum, Nat.reduceAdd] at E
  refine wp_seq ?_
  refine wp_region_lit ?_
  refine sv E rfl rfl rfl (x_assign E rfl rfl) ?_
  clear a E;intro a E
  refine wpList_nil ?_
  refine q_then ?_
  refine wp_seq ?_
  refine wp_region_lit ?_
  refine sv E rfl rfl rfl (x_assign E rfl rfl) ?_
  clear a E;intro a E
  refine wpList_nil ?_
  refine q_then ?_
  refine wp_block ?_
  refine wp_loop (fun a' w' => Env _ a' _ ∧ w' = w) (fun _ _ => 0) ⟨E, rfl⟩ ?_
  clear E; clear a; rintro a w' ⟨E, rfl⟩
  refine wp_block ?_
  refine wp_seq ?_
  refine wp_region_lit ?_
  refine sv E rfl rfl rfl (x_move E rfl rfl) ?_
  clear a E;intro a E
  refine sv E rfl rfl rfl (x_move E rfl rfl) ?_
  clear a E;intro a E
  refine sv E rfl rfl rfl (x_bin E rfl rfl rfl rfl) ?_
  clear a E;intro a E
  refine sv E rfl rfl rfl (x_assign E rfl rfl) ?_
  clear a E;intro a E
  refine wpList_nil ?_
  refine q_then ?_
  refine wp_seq ?_
  refine wp_seq ?_
  refine wp_region_lit ?_
  refine sv E rfl rfl rfl (x_move E rfl rfl) ?_
  clear a E;intro a E
  refine sv E rfl rfl rfl (x_bin E rfl rfl rfl rfl) ?_
  clear a E;intro a E
  refine wpList_nil ?_
  refine q_then ?_
  refine wp_if E rfl (fun _ => ?_) fun hb => absurd hb (by decide)
  refine wp_seq ?_
  refine wp_region_lit ?_
  refine sv E rfl rfl rfl (x_move E rfl rfl) ?_
  clear a E;intro a E
  refine sv E rfl rfl rfl (x_move E rfl rfl) ?_
  clear a E;intro a E
  refine sv E rfl rfl rfl (x_move E rfl rfl) ?_
  clear a E;intro a E
  refine sv E rfl rfl rfl (x_move E rfl rfl) ?_
  clear a E;intro a E
  refine st_call E (wn rfl) rfl rfl (x_call E rfl rfl (cfx_167 _)) ins_nil ?_
  rintro _ w ⟨rfl, rfl⟩ a E
  refine wpList_nil ?_
  refine q_then ?_
  refine wp_ret ?_
  refine out0r E rfl ⟨rfl, rfl⟩
theorem srt_nil {w : World} : Calls Tryz.prog 106 [.slice none 0 0, .func (.func 107) #[] #[]].toArray w (Ret fun v w' => v = .tuple #[] ∧ w' = w) := by
  refine enter Tryz.func106 rfl Tryz.ntmps106 rfl fun a E => ?_
  simp only [enum, Nat.reduceAdd] at E
  refine wp_seq ?_
  refine wp_region_lit ?_
  refine sv E rfl rfl rfl (x_move E rfl rfl) ?_
  clear a E;intro a E
  refine sv E rfl rfl rfl (x_lenV E rfl rfl Tryz.underlying22) ?_
  clear a E;intro a E
  refine sv E rfl rfl rfl (x_assign E rfl rfl) ?_
  clear a E;intro a E
  refine wpList_nil ?_
  refine q_then ?_
  refine wp_region_lit ?_
  refine sv E rfl rfl rfl (x_move E rfl rfl) ?_
  clear a E;intro a E
  refine sv E rfl rfl rfl (x_move E rfl rfl) ?_
  clear a E;intro a E
  refine sv E rfl rfl rfl (x_move E rfl rfl) ?_
  clear a E;intro a E
  refine sv E rfl rfl rfl (x_conv E rfl rfl (v := .int .u64 0) (by kernel_rfl)) ?_
  clear a E;intro a E
  refine x_cl E rfl rfl rfl rfl rfl cfx_147 (len_x w) ?_
  rintro _ w ⟨rfl, rfl⟩ a E
  refine sv E rfl rfl rfl (x_move E rfl rfl) ?_
  clear a E;intro a E
  refine st_call E (wn rfl) rfl rfl (x_call E rfl rfl (cfx_146 _)) pdq_nil ?_
  rintro _ w ⟨rfl, rfl⟩ a E
  refine wpList_nil ?_
  refine out0 E rfl ⟨rfl, rfl⟩
def cfN (x y : S_api_Node) : Int := Extern.BytealgCompare.cmp x.Path y.Path
instance : Inhabited S_api_Node := ⟨⟨⟨#[]⟩, ⟨#[]⟩, 0, 0, 0⟩⟩
/-- what slices.SortFunc makes of nodes, by their paths. -/
def srtN (l : List S_api_Node) : List S_api_Node := (Sort.pdq (ltOf cfN) l.toArray 0 l.toArray.size (Lib.bitLen l.toArray.size) true true).toList
theorem srt_spec (l : List S_api_Node) : Sort.PermIn 0 l.toArray.size l.toArray (srtN l).toArray ∧ Sort.SortedIn (ltOf cfN) 0 l.toArray.size (srtN l).toArray := by
  have h := Sort.pdq_sorts (ltOf cfN) (zswo S_api_Node.Path) l.toArray 0 l.toArray.size (Lib.bitLen l.toArray.size) true true (Nat.zero_le _) (Nat.le_refl _) (Or.inl rfl)
  unfold srtN
  rw [Array.toArray_toList]
  exact h
theorem srt_len (l : List S_api_Node) : (srtN l).length = l.length := by
  have := (srt_spec l).1.1
  simpa using this
theorem srt_perm (l : List S_api_Node) : (srtN l).Perm l := by
  have h := (srt_spec l).1.2.2
  have e1 : (srtN l).toArray.extract 0 l.toArray.size = (srtN l).toArray := by rw [show l.toArray.size = (srtN l).toArray.size from (srt_spec l).1.1.symm, Array.extract_size]
  rw [e1, Array.extract_size] at h
  simpa using h
theorem srt_sorted (l : List S_api_Node) : (srtN l).Pairwise (fun a b => ¬ zb b.Path < zb a.Path) := by
  rw [List.pairwise_iff_getElem]
  intro i j hi hj hij
  have hs := srt_len l
  have h := (srt_spec l).2 i j (Nat.zero_le _) hij (by simp; omega)
  have e1 : (srtN l).toArray[j]! = (srtN l)[j] := by simp [hj]
  have e2 : (srtN l).toArray[i]! = (srtN l)[i] := by simp [hi]
  rw [e1, e2] at h
  have h2 : decide (zb ((srtN l)[j]).Path < zb ((srtN l)[i]).Path) = false := (zcmp_lt _ _).symm.trans h
  simpa using h2
theorem sort_c {w : World} {os : List Ob} {rs : List Rp} {ix : Nat} {v : Value} {xs : List S_api_Node} (H : Sep w os rs) (hi : os[ix]? = some (Row 80 k_api_Node v xs)) (hn : xs.length ≤ 1000000) :
    Calls Tryz.prog 106 [v, .func (.func 107) #[] #[]].toArray w (Ret fun v' w' => v' = .tuple #[] ∧ Sep w' (os.set ix (Row 80 k_api_Node v (srtN xs))) rs) := by
  obtain ⟨_, _, flat, ⟨_, hv⟩, _⟩ := H.ob ix hi
  rcases hv with ⟨rfl, h0⟩ | ⟨g, cap, cur, rfl, _⟩
  · have h1 : xs = [] := List.eq_nil_of_length_eq_zero h0
    subst h1
    have h2 : srtN [] = [] := List.eq_nil_of_length_eq_zero (srt_len [])
    refine (ret_x srt_nil).mono ?_
    rintro _ w' ⟨_, rfl, rfl, rfl⟩
    refine ⟨rfl, ?_⟩
    rw [h2]
    have h3 : os.set ix (Row 80 k_api_Node (.slice none 0 0) []) = os := by
      obtain ⟨hl, he⟩ := List.getElem?_eq_some_iff.1 hi
      rw [← he, List.set_getElem_self]
    rw [h3]
    exact H
  · have hcon := AnyQ.slices_SortFunc_eq sortLays 5 Tryz.isAgg80 Tryz.sizeOf80 k_api_Node_flat.enc (fun _ => rfl) (fun x v hv => by simp [k_api_Node_flat] at hv; rcases hv with rfl | rfl | rfl | rfl | rfl <;> rfl) cfN (zswo S_api_Node.Path) 107 #[] g 0 cap xs.toArray w (fun args w => cf_of Tryz.func107 rfl (by kernel_rfl) args) (fun _ _ _ _ x y => cmpN_x x y _) (holds_row H k_api_Node_flat hi) (row_own H hi).1 (by simp; omega)
    refine hcon.mono ?_
    rintro _ _ ⟨rfl, n, os', rfl⟩
    exact ⟨rfl, H.sorted k_api_Node_flat hi n (srtN xs) (srt_len xs) os'⟩
end Go.Cb
