/- A function of the program, walked: it comes to its plain function. -/
import Derived.Test.YtbjpjbopfhbkmaaT
import Derived.Test.YtbjpjbopfhbkmaaFcantonref02ReaderNum
import Derived.Test.YtbjpjbopfhbkmaaFcantonref02Readerfail
set_option linter.unusedVariables false
set_option linter.unusedSimpArgs false
namespace Go.Cb
open Go.Proofs Go.RowKit
def m_cantonref02_Reader_Text (l3 : List Int) (x4 : Int) : Option (ByteArray × (List Int) × Int) :=
  (m_cantonref02_Reader_Num l3 x4 281474976710656).bind fun u6 => if (u6.2.2 != 0) = true then (some (⟨#[]⟩, u6.2.1, u6.2.2)) else (if (decide (u6.1 > (u6.2.1.length : Int))) = true then ((m_cantonref02_Reader_fail u6.2.1 u6.2.2 21).bind fun u9 => some (⟨#[]⟩, u9.1, u9.2)) else ((ck (0 ≤ u6.1 ∧ u6.1 ≤ u6.2.1.length)).bind fun u12 => (ck (0 ≤ u6.1 ∧ u6.1 ≤ u6.2.1.length)).bind fun u15 => some (strOf (u6.2.1.take u6.1.toNat), u6.2.1.drop u6.1.toNat, u6.2.2)))
set_option maxRecDepth 20000 in
set_option maxHeartbeats 1000000 in
theorem c_cantonref02_Reader_Text {w : World} {Fo : List Ob} {rs : List Rp} (p1 : Nat) (v2 : Value) (l3 : List Int) (x4 : Int) (H : Sep w (Blk p1 77 [v2, .int .i64 x4] :: Fo) rs) (hr5 : rSl (kI .u8) v2 l3 ∈ rs) {r : ByteArray × (List Int) × Int} (hm : m_cantonref02_Reader_Text l3 x4 = some r) :
    Calls Try.prog 45 [.pointer (some ⟨p1, 0, none⟩)].toArray w (Ret fun v w' => ∃ (v5002 : Value), .string r.1 = v ∧ Sep w' (Blk p1 77 [v5002, .int .i64 r.2.2] :: Fo) (rSl (kI .u8) v5002 r.2.1 :: rs)) := by
  unfold m_cantonref02_Reader_Text at hm
  refine enter Try.func45 rfl Try.ntmps45 rfl fun a E => ?_
  simp only [enum, Nat.reduceAdd] at E
  refine wp_seq ?_
  refine wp_region_lit ?_
  refine st_val E (wn rfl) rfl rfl (x_assign E rfl rfl) ?_
  clear E; clear a; intro a E
  refine wpList_nil ?_
  refine q_then ?_
  refine wp_seq ?_
  refine wp_region_lit ?_
  refine st_val E (wn rfl) rfl rfl (x_move E rfl rfl) ?_
  clear E; clear a; intro a E
  replace H : Sep w (Blk p1 77 [v2, .int .i64 x4] :: Fo) (rs) := H
  obtain ⟨u6, hx7, hm⟩ := bnd hm
  refine st_call E (wn rfl) rfl rfl (x_call E rfl rfl (cf44 _)) (c_cantonref02_Reader_Num p1 v2 l3 x4 281474976710656 H hr5 hx7) ?_
  clear E H; clear a; clear w; rintro _ w ⟨v8, rfl, H⟩ a E
  refine st_val E (wn rfl) rfl rfl (x_assign E rfl rfl) ?_
  clear E; clear a; intro a E
  refine wpList_nil ?_
  refine q_then ?_
  refine wp_seq ?_
  refine wp_seq ?_
  refine wp_region_lit ?_
  refine st_val E (wn rfl) rfl rfl (x_move E rfl rfl) ?_
  clear E; clear a; intro a E
  refine st_val E (wn rfl) rfl rfl (x_nil E rfl rfl) ?_
  clear E; clear a; intro a E
  refine st_val E (wn rfl) rfl rfl (x_fa E rfl rfl (v := .pointer (some ⟨p1, 1, none⟩)) (fa77_1 _ _)) ?_
  clear E; clear a; intro a E
  refine st_val E (wn rfl) rfl rfl (x_ldB (i := 0) E H rfl rfl rfl rfl Try.underlying52 rfl) ?_
  clear E; clear a; intro a E
  refine st_val E (wn rfl) rfl rfl (x_bin E rfl rfl rfl rfl) ?_
  clear E; clear a; intro a E
  refine wpList_nil ?_
  refine q_then ?_
  refine wp_if E rfl ?_ ?_
  · intro hb
    rw [if_t hb] at hm
    clear hb
    refine wp_seq ?_
    refine wp_region_lit ?_
    refine st_val E (wn rfl) rfl rfl (x_assign E rfl rfl) ?_
    clear E; clear a; intro a E
    refine wpList_nil ?_
    refine q_then ?_
    refine wp_ret ?_
    refine q_thenR ?_
    refine out1 E rfl rfl ?_
    obtain rfl := Option.some.inj hm
    exact ⟨v8, rfl, H.reads (sub_cons (.head _) (fun r hr => .tail _ (hr)))⟩
  · intro hb
    rw [if_f hb] at hm
    clear hb
    refine wp_skip ?_
    refine q_then ?_
    refine wp_seq ?_
    refine wp_seq ?_
    refine wp_region_lit ?_
    refine st_val E (wn rfl) rfl rfl (x_move E rfl rfl) ?_
    clear E; clear a; intro a E
    refine st_val E (wn rfl) rfl rfl (x_move E rfl rfl) ?_
    clear E; clear a; intro a E
    refine st_val E (wn rfl) rfl rfl (x_nil E rfl rfl) ?_
    clear E; clear a; intro a E
    refine st_val E (wn rfl) rfl rfl (x_fa E rfl rfl (v := .pointer (some ⟨p1, 0, none⟩)) (fa77_0 _ _)) ?_
    clear E; clear a; intro a E
    refine st_val E (wn rfl) rfl rfl (x_ldB (i := 0) E H rfl rfl rfl rfl Try.underlying46 rfl) ?_
    clear E; clear a; intro a E
    refine st_val E (wn rfl) rfl rfl (x_lenS E H rfl rfl (.head _) Try.underlying46) ?_
    clear E; clear a; intro a E
    refine st_val E (wn rfl) rfl rfl (x_bin E rfl rfl rfl rfl) ?_
    clear E; clear a; intro a E
    refine wpList_nil ?_
    refine q_then ?_
    refine wp_if E rfl ?_ ?_
    · intro hb
      rw [if_t hb] at hm
      clear hb
      refine wp_seq ?_
      refine wp_region_lit ?_
      refine st_val E (wn rfl) rfl rfl (x_move E rfl rfl) ?_
      clear E; clear a; intro a E
      replace H : Sep w (Blk p1 77 [v8, .int .i64 u6.2.2] :: Fo) (rSl (kI .u8) v8 u6.2.1 :: rs) := H
      obtain ⟨u9, hx10, hm⟩ := bnd hm
      refine st_call E (wn rfl) rfl rfl (x_call E rfl rfl (cf54 _)) (c_cantonref02_Reader_fail p1 v8 u6.2.1 u6.2.2 21 H (.head _) hx10) ?_
      clear E H; clear a; clear w; rintro _ w ⟨v11, rfl, H⟩ a E
      refine wpList_nil ?_
      refine q_then ?_
      refine wp_seq ?_
      refine wp_region_lit ?_
      refine st_val E (wn rfl) rfl rfl (x_assign E rfl rfl) ?_
      clear E; clear a; intro a E
      refine wpList_nil ?_
      refine q_then ?_
      refine wp_ret ?_
      refine q_thenR ?_
      refine out1 E rfl rfl ?_
      obtain rfl := Option.some.inj hm
      exact ⟨v11, rfl, H.reads (sub_cons (.head _) (fun r hr => .tail _ (.tail _ (hr))))⟩
    · intro hb
      rw [if_f hb] at hm
      clear hb
      refine wp_skip ?_
      refine q_then ?_
      refine wp_seq ?_
      refine wp_region_lit ?_
      refine st_val E (wn rfl) rfl rfl (x_move E rfl rfl) ?_
      clear E; clear a; intro a E
      refine st_val E (wn rfl) rfl rfl (x_nil E rfl rfl) ?_
      clear E; clear a; intro a E
      refine st_val E (wn rfl) rfl rfl (x_fa E rfl rfl (v := .pointer (some ⟨p1, 0, none⟩)) (fa77_0 _ _)) ?_
      clear E; clear a; intro a E
      refine st_val E (wn rfl) rfl rfl (x_ldB (i := 0) E H rfl rfl rfl rfl Try.underlying46 rfl) ?_
      clear E; clear a; intro a E
      refine st_val E (wn rfl) rfl rfl (x_move E rfl rfl) ?_
      clear E; clear a; intro a E
      obtain ⟨u12, hx13, hm⟩ := bnd hm
      refine st_take E H (wn rfl) rfl rfl rfl rfl rfl (.head _) Try.underlying46 sz5 (ck_of hx13) ?_
      clear E H; clear a; intro v14 a H E
      refine st_val E (wn rfl) rfl rfl (x_b2s E H rfl rfl (.head _) Try.underlying46 Try.underlying5 Try.underlying9) ?_
      clear E; clear a; intro a E
      refine st_val E (wn rfl) rfl rfl (x_assign E rfl rfl) ?_
      clear E; clear a; intro a E
      refine wpList_nil ?_
      refine q_then ?_
      refine wp_seq ?_
      refine wp_region_lit ?_
      refine st_val E (wn rfl) rfl rfl (x_move E rfl rfl) ?_
      clear E; clear a; intro a E
      refine st_val E (wn rfl) rfl rfl (x_move E rfl rfl) ?_
      clear E; clear a; intro a E
      refine st_val E (wn rfl) rfl rfl (x_nil E rfl rfl) ?_
      clear E; clear a; intro a E
      refine st_val E (wn rfl) rfl rfl (x_fa E rfl rfl (v := .pointer (some ⟨p1, 0, none⟩)) (fa77_0 _ _)) ?_
      clear E; clear a; intro a E
      refine st_val E (wn rfl) rfl rfl (x_ldB (i := 0) E H rfl rfl rfl rfl Try.underlying46 rfl) ?_
      clear E; clear a; intro a E
      refine st_val E (wn rfl) rfl rfl (x_move E rfl rfl) ?_
      clear E; clear a; intro a E
      obtain ⟨u15, hx16, hm⟩ := bnd hm
      refine st_cut E H (wn rfl) rfl rfl rfl rfl rfl (.tail _ (.head _)) Try.underlying46 sz5 (ck_of hx16) ?_
      clear E H; clear a; intro v17 a H E
      refine st_val E (wn rfl) rfl rfl (x_nil E rfl rfl) ?_
      clear E; clear a; intro a E
      refine st_val E (wn rfl) rfl rfl (x_fa E rfl rfl (v := .pointer (some ⟨p1, 0, none⟩)) (fa77_0 _ _)) ?_
      clear E; clear a; intro a E
      obtain ⟨q18, x19, rfl⟩ := H.slform (.head _)
      refine st_st (i := 0) E H (wn rfl) rfl (us := [(.slice q18 (u6.2.1.drop u6.1.toNat).length x19)]) rfl rfl rfl rfl rfl sz46 rfl rfl ?_
      clear H; clear w; intro w H
      replace H : Sep w (Blk p1 77 [(.slice q18 (u6.2.1.drop u6.1.toNat).length x19), .int .i64 u6.2.2] :: Fo) _ := H
      refine wpList_nil ?_
      refine q_then ?_
      refine wp_seq ?_
      refine wp_region_lit ?_
      refine st_val E (wn rfl) rfl rfl (x_move E rfl rfl) ?_
      clear E; clear a; intro a E
      refine st_val E (wn rfl) rfl rfl (x_assign E rfl rfl) ?_
      clear E; clear a; intro a E
      refine wpList_nil ?_
      refine q_then ?_
      refine wp_ret ?_
      refine out1 E rfl rfl ?_
      obtain rfl := Option.some.inj hm
      exact ⟨(.slice q18 (u6.2.1.drop u6.1.toNat).length x19), rfl, H.reads (sub_cons (.head _) (fun r hr => .tail _ (.tail _ (.tail _ (hr)))))⟩
end Go.Cb
