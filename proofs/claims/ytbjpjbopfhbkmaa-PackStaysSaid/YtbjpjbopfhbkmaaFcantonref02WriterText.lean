/- A function of the program, walked: it comes to its plain function. -/
import Derived.Test.YtbjpjbopfhbkmaaT
import Derived.Test.YtbjpjbopfhbkmaaFcantonref02WriterNum
set_option linter.unusedVariables false
set_option linter.unusedSimpArgs false
namespace Go.Cb
open Go.Proofs Go.RowKit
def m_cantonref02_Writer_Text (l3 : List Int) (b4 : Bool) (s5 : ByteArray) : Option ((List Int) × Bool) :=
  (m_cantonref02_Writer_Num l3 b4 (s5.size : Int)).bind fun u6 => (ck (u6.1.length + s5.size ≤ LIM)).bind fun u10 => some (u6.1 ++ bytesOf s5, u6.2)
set_option maxRecDepth 20000 in
set_option maxHeartbeats 1000000 in
theorem c_cantonref02_Writer_Text {w : World} {Fo : List Ob} {rs : List Rp} (p1 : Nat) (v2 : Value) (l3 : List Int) (b4 : Bool) (s5 : ByteArray) (H : Sep w (Blk p1 67 [v2, .bool b4] :: Row 5 (kI .u8) v2 l3 :: Fo) rs) {r : (List Int) × Bool} (hm : m_cantonref02_Writer_Text l3 b4 s5 = some r) :
    Calls Try.prog 39 [.pointer (some ⟨p1, 0, none⟩), .string s5].toArray w (Ret fun v w' => ∃ (v5001 : Value), .tuple #[] = v ∧ Sep w' (Blk p1 67 [v5001, .bool r.2] :: Row 5 (kI .u8) v5001 r.1 :: Fo) (rs)) := by
  unfold m_cantonref02_Writer_Text at hm
  refine enter Try.func39 rfl Try.ntmps39 rfl fun a E => ?_
  simp only [enum, Nat.reduceAdd] at E
  refine wp_seq ?_
  refine wp_region_lit ?_
  refine st_val E (wn rfl) rfl rfl (x_move E rfl rfl) ?_
  clear E; clear a; intro a E
  refine st_val E (wn rfl) rfl rfl (x_move E rfl rfl) ?_
  clear E; clear a; intro a E
  refine st_val E (wn rfl) rfl rfl (x_lenStr E rfl rfl Try.underlying9) ?_
  clear E; clear a; intro a E
  replace H : Sep w (Blk p1 67 [v2, .bool b4] :: Row 5 (kI .u8) v2 l3 :: Fo) (rs) := H
  obtain ⟨u6, hx7, hm⟩ := bnd hm
  refine st_call E (wn rfl) rfl rfl (x_call E rfl rfl (cf38 _)) (c_cantonref02_Writer_Num p1 v2 l3 b4 (s5.size : Int) H hx7) ?_
  clear E H; clear a; clear w; rintro _ w ⟨v8, rfl, H⟩ a E
  refine wpList_nil ?_
  refine q_then ?_
  refine wp_region_lit ?_
  refine st_val E (wn rfl) rfl rfl (x_move E rfl rfl) ?_
  clear E; clear a; intro a E
  refine st_val E (wn rfl) rfl rfl (x_move E rfl rfl) ?_
  clear E; clear a; intro a E
  refine st_val E (wn rfl) rfl rfl (x_nil E rfl rfl) ?_
  clear E; clear a; intro a E
  refine st_val E (wn rfl) rfl rfl (x_fa E rfl rfl (v := .pointer (some ⟨p1, 0, none⟩)) (fa67_0 _ _)) ?_
  clear E; clear a; intro a E
  refine st_val E (wn rfl) rfl rfl (x_ldB (i := 0) E H rfl rfl rfl rfl Try.underlying46 rfl) ?_
  clear E; clear a; intro a E
  refine st_val E (wn rfl) rfl rfl (x_move E rfl rfl) ?_
  clear E; clear a; intro a E
  obtain ⟨u10, hx11, hm⟩ := bnd hm
  refine st_appendStr (i := 1) E H (wn rfl) rfl rfl rfl rfl rfl rfl Try.underlying46 Try.underlying9 inf5 (ck_of hx11) ?_
  clear E H; clear a; clear w; intro v9 w a H E
  refine st_val E (wn rfl) rfl rfl (x_nil E rfl rfl) ?_
  clear E; clear a; intro a E
  refine st_val E (wn rfl) rfl rfl (x_fa E rfl rfl (v := .pointer (some ⟨p1, 0, none⟩)) (fa67_0 _ _)) ?_
  clear E; clear a; intro a E
  obtain ⟨q12, x13, rfl⟩ := H.rowform (i := 1) rfl
  refine st_st (i := 0) E H (wn rfl) rfl (us := [(.slice q12 (u6.1 ++ bytesOf s5).length x13)]) rfl rfl rfl rfl rfl sz46 rfl rfl ?_
  clear H; clear w; intro w H
  replace H : Sep w (Blk p1 67 [(.slice q12 (u6.1 ++ bytesOf s5).length x13), .bool u6.2] :: Row 5 (kI .u8) (.slice q12 (u6.1 ++ bytesOf s5).length x13) (u6.1 ++ bytesOf s5) :: Fo) _ := H
  refine wpList_nil ?_
  refine out0 E rfl ?_
  obtain rfl := Option.some.inj hm
  exact ⟨(.slice q12 (u6.1 ++ bytesOf s5).length x13), rfl, H.reads (fun r hr => hr)⟩
end Go.Cb
