/- A function of the program, walked: it comes to its plain function. -/
import Derived.Test.YtbjpjbopfhbkmaaT
import Derived.Test.YtbjpjbopfhbkmaaFpackReaderNum
set_option linter.unusedVariables false
set_option linter.unusedSimpArgs false
namespace Go.Cb
open Go.Proofs Go.RowKit
def m_pack_Reader_Text_j1 (u6 : Int × (List Int) × Int) (l10 : (List Int)) (x11 : Int) : Option (ByteArray × (List Int) × Int) :=
  if (x11 != 0) = true then (some (⟨#[]⟩, l10, x11)) else ((ck (0 ≤ u6.1 ∧ u6.1 ≤ l10.length)).bind fun u15 => (ck (0 ≤ u6.1 ∧ u6.1 ≤ l10.length)).bind fun u18 => some (strOf (l10.take u6.1.toNat), l10.drop u6.1.toNat, x11))
def m_pack_Reader_Text_j2 (u6 : Int × (List Int) × Int) (b23 : Bool) : Option (ByteArray × (List Int) × Int) :=
  if b23 = true then (m_pack_Reader_Text_j1 u6 ([] : List Int) 21) else (m_pack_Reader_Text_j1 u6 u6.2.1 u6.2.2)
def m_pack_Reader_Text (l3 : List Int) (x4 : Int) : Option (ByteArray × (List Int) × Int) :=
  (m_pack_Reader_Num l3 x4 281474976710656).bind fun u6 => if (u6.2.2 == 0) = true then (m_pack_Reader_Text_j2 u6 (decide (u6.1 > (u6.2.1.length : Int)))) else (m_pack_Reader_Text_j2 u6 false)
set_option maxRecDepth 20000 in
set_option maxHeartbeats 1000000 in
theorem c_pack_Reader_Text {w : World} {Fo : List Ob} {rs : List Rp} (p1 : Nat) (v2 : Value) (l3 : List Int) (x4 : Int) (H : Sep w (Blk p1 91 [v2, .int .i64 x4] :: Fo) rs) (hr5 : rSl (kI .u8) v2 l3 ∈ rs) {r : ByteArray × (List Int) × Int} (hm : m_pack_Reader_Text l3 x4 = some r) :
    Calls Try.prog 36 [.pointer (some ⟨p1, 0, none⟩)].toArray w (Ret fun v w' => ∃ (v5002 : Value), .string r.1 = v ∧ Sep w' (Blk p1 91 [v5002, .int .i64 r.2.2] :: Fo) (rSl (kI .u8) v5002 r.2.1 :: rs)) := by
  unfold m_pack_Reader_Text at hm
  refine enter Try.func36 rfl Try.ntmps36 rfl fun a E => ?_
  simp only [enum, Nat.reduceAdd] at E
  refine wp_seq ?_
  refine wp_region_lit ?_
  refine st_val E (wn rfl) rfl rfl (x_assign E rfl rfl) ?_
  clear E; clear a; intro a E
  refine wpList_nil ?_
  refine q_then ?_
  refine wp_seq ?_
  refine wp_region_lit ?_
  refine st_val E (wn rfl) rfl rfl (x_move E rfl rfl) ?_
  clear E; clear a; intro a E
  replace H : Sep w (Blk p1 91 [v2, .int .i64 x4] :: Fo) (rs) := H
  obtain ⟨u6, hx7, hm⟩ := bnd hm
  refine st_call E (wn rfl) rfl rfl (x_call E rfl rfl (cf32 _)) (c_pack_Reader_Num p1 v2 l3 x4 281474976710656 H hr5 hx7) ?_
  clear E H; clear a; clear w; rintro _ w ⟨v8, rfl, H⟩ a E
  refine st_val E (wn rfl) rfl rfl (x_assign E rfl rfl) ?_
  clear E; clear a; intro a E
  refine wpList_nil ?_
  refine q_then ?_
  refine wp_seq_cut (fun a w => ∃ (v9 : Value) (l10 : (List Int)) (x11 : Int) (rs12 : List Rp), Env 49 a [(0, .pointer (some ⟨p1, 0, none⟩)), (3, .int .i64 u6.1)] ∧ Sep w (Blk p1 91 [v9, .int .i64 x11] :: Fo) rs12 ∧ (∀ r, r ∈ rs → r ∈ rs12) ∧ rSl (kI .u8) v9 l10 ∈ rs12 ∧ m_pack_Reader_Text_j1 u6 l10 x11 = some r) ?_ ?_
  · refine wp_seq_cut (fun a w => ∃ (b23 : Bool) (rs24 : List Rp), Env 49 a [(0, .pointer (some ⟨p1, 0, none⟩)), (3, .int .i64 u6.1), (20, .bool b23)] ∧ Sep w (Blk p1 91 [v8, .int .i64 u6.2.2] :: Fo) rs24 ∧ (∀ r, r ∈ rs → r ∈ rs24) ∧ rSl (kI .u8) v8 u6.2.1 ∈ rs24 ∧ m_pack_Reader_Text_j2 u6 b23 = some r) ?_ ?_
    · refine wp_region_lit ?_
      refine st_val E (wn rfl) rfl rfl (x_move E rfl rfl) ?_
      clear E; clear a; intro a E
      refine st_val E (wn rfl) rfl rfl (x_nil E rfl rfl) ?_
      clear E; clear a; intro a E
      refine st_val E (wn rfl) rfl rfl (x_fa E rfl rfl (v := .pointer (some ⟨p1, 1, none⟩)) (fa91_1 _ _)) ?_
      clear E; clear a; intro a E
      refine st_val E (wn rfl) rfl rfl (x_ldB (i := 0) E H rfl rfl rfl rfl Try.underlying52 rfl) ?_
      clear E; clear a; intro a E
      refine st_val E (wn rfl) rfl rfl (x_bin E rfl rfl rfl rfl) ?_
      clear E; clear a; intro a E
      refine st_val E (wn rfl) rfl rfl (x_move E rfl rfl) ?_
      clear E; clear a; intro a E
      rcases Bool.eq_false_or_eq_true (u6.2.2 == 0) with hb27 | hb27
      · rw [if_t hb27] at hm
        refine st_val E (ws' E rfl rfl rfl rfl hb27) rfl rfl (x_move E rfl rfl) ?_
        clear E; clear a; intro a E
        refine st_val E (ws' E rfl rfl rfl rfl hb27) rfl rfl (x_move E rfl rfl) ?_
        clear E; clear a; intro a E
        refine st_val E (ws' E rfl rfl rfl rfl hb27) rfl rfl (x_nil E rfl rfl) ?_
        clear E; clear a; intro a E
        refine st_val E (ws' E rfl rfl rfl rfl hb27) rfl rfl (x_fa E rfl rfl (v := .pointer (some ⟨p1, 0, none⟩)) (fa91_0 _ _)) ?_
        clear E; clear a; intro a E
        refine st_val E (ws' E rfl rfl rfl rfl hb27) rfl rfl (x_ldB (i := 0) E H rfl rfl rfl rfl Try.underlying46 rfl) ?_
        clear E; clear a; intro a E
        refine st_val E (ws' E rfl rfl rfl rfl hb27) rfl rfl (x_lenS E H rfl rfl (.head _) Try.underlying46) ?_
        clear E; clear a; intro a E
        refine st_val E (ws' E rfl rfl rfl rfl hb27) rfl rfl (x_bin E rfl rfl rfl rfl) ?_
        clear E; clear a; intro a E
        refine st_val E (wn rfl) rfl rfl (x_pickT E rfl rfl hb27 rfl) ?_
        clear E; clear a; intro a E
        refine wpList_nil ?_
        refine q_then ?_
        exact ⟨decide (u6.1 > (u6.2.1.length : Int)), _, (((E.nil.keep E 20 rfl).keep E 3 rfl).keep E 0 rfl), H, fun r hr => .tail _ (hr), (.head _), hm⟩
      · rw [if_f hb27] at hm
        refine st_no E (wf' E rfl rfl rfl rfl hb27 rfl) rfl rfl ?_
        clear E; clear a; intro a E
        refine st_no E (wf' E rfl rfl rfl rfl hb27 rfl) rfl rfl ?_
        clear E; clear a; intro a E
        refine st_no E (wf' E rfl rfl rfl rfl hb27 rfl) rfl rfl ?_
        clear E; clear a; intro a E
        refine st_no E (wf' E rfl rfl rfl rfl hb27 rfl) rfl rfl ?_
        clear E; clear a; intro a E
        refine st_no E (wf' E rfl rfl rfl rfl hb27 rfl) rfl rfl ?_
        clear E; clear a; intro a E
        refine st_no E (wf' E rfl rfl rfl rfl hb27 rfl) rfl rfl ?_
        clear E; clear a; intro a E
        refine st_no E (wf' E rfl rfl rfl rfl hb27 rfl) rfl rfl ?_
        clear E; clear a; intro a E
        refine st_val E (wn rfl) rfl rfl (x_pickF E rfl rfl hb27 rfl) ?_
        clear E; clear a; intro a E
        refine wpList_nil ?_
        refine q_then ?_
        exact ⟨false, _, (((E.nil.keep E 20 rfl).keep E 3 rfl).keep E 0 rfl), H, fun r hr => .tail _ (hr), (.head _), hm⟩
    · clear E H hm
      rintro a w ⟨b23, rs24, E, H, hs25, hr26, hm⟩
      unfold m_pack_Reader_Text_j2 at hm
      refine wp_if E rfl ?_ ?_
      · intro hb
        rw [if_t hb] at hm
        clear hb
        refine wp_region_lit ?_
        refine st_val E (wn rfl) rfl rfl (x_move E rfl rfl) ?_
        clear E; clear a; intro a E
        refine st_val E (wn rfl) rfl rfl (x_move E rfl rfl) ?_
        clear E; clear a; intro a E
        refine st_val E (wn rfl) rfl rfl (x_nil E rfl rfl) ?_
        clear E; clear a; intro a E
        refine st_val E (wn rfl) rfl rfl (x_fa E rfl rfl (v := .pointer (some ⟨p1, 1, none⟩)) (fa91_1 _ _)) ?_
        clear E; clear a; intro a E
        refine st_st (i := 0) E H (wn rfl) rfl (us := [.int .i64 21]) rfl rfl rfl rfl rfl sz52 rfl rfl ?_
        clear H; clear w; intro w H
        replace H : Sep w (Blk p1 91 [v8, .int .i64 21] :: Fo) _ := H
        refine st_val E (wn rfl) rfl rfl (x_nil E rfl rfl) ?_
        clear E; clear a; intro a E
        refine st_val E (wn rfl) rfl rfl (x_fa E rfl rfl (v := .pointer (some ⟨p1, 0, none⟩)) (fa91_0 _ _)) ?_
        clear E; clear a; intro a E
        refine st_st (i := 0) E H (wn rfl) rfl (us := [.slice none 0 0]) rfl rfl rfl rfl rfl sz46 rfl rfl ?_
        clear H; clear w; intro w H
        replace H : Sep w (Blk p1 91 [.slice none 0 0, .int .i64 21] :: Fo) _ := H
        refine wpList_nil ?_
        refine q_then ?_
        replace H := H.nilSl (kI .u8)
        exact ⟨(.slice none 0 0), ([] : List Int), 21, _, ((E.nil.keep E 3 rfl).keep E 0 rfl), H, fun r hr => .tail _ (hs25 r hr), (.head _), hm⟩
      · intro hb
        rw [if_f hb] at hm
        clear hb
        refine wp_skip ?_
        refine q_then ?_
        exact ⟨v8, u6.2.1, u6.2.2, _, ((E.nil.keep E 3 rfl).keep E 0 rfl), H, hs25, hr26, hm⟩
  · clear E H hm
    rintro a w ⟨v9, l10, x11, rs12, E, H, hs13, hr14, hm⟩
    unfold m_pack_Reader_Text_j1 at hm
    refine wp_seq ?_
    refine wp_seq ?_
    refine wp_region_lit ?_
    refine st_val E (wn rfl) rfl rfl (x_move E rfl rfl) ?_
    clear E; clear a; intro a E
    refine st_val E (wn rfl) rfl rfl (x_nil E rfl rfl) ?_
    clear E; clear a; intro a E
    refine st_val E (wn rfl) rfl rfl (x_fa E rfl rfl (v := .pointer (some ⟨p1, 1, none⟩)) (fa91_1 _ _)) ?_
    clear E; clear a; intro a E
    refine st_val E (wn rfl) rfl rfl (x_ldB (i := 0) E H rfl rfl rfl rfl Try.underlying52 rfl) ?_
    clear E; clear a; intro a E
    refine st_val E (wn rfl) rfl rfl (x_bin E rfl rfl rfl rfl) ?_
    clear E; clear a; intro a E
    refine wpList_nil ?_
    refine q_then ?_
    refine wp_if E rfl ?_ ?_
    · intro hb
      rw [if_t hb] at hm
      clear hb
      refine wp_seq ?_
      refine wp_region_lit ?_
      refine st_val E (wn rfl) rfl rfl (x_assign E rfl rfl) ?_
      clear E; clear a; intro a E
      refine wpList_nil ?_
      refine q_then ?_
      refine wp_ret ?_
      refine q_thenR ?_
      refine out1 E rfl rfl ?_
      obtain rfl := Option.some.inj hm
      exact ⟨v9, rfl, H.reads (sub_cons hr14 (fun r hr => hs13 r hr))⟩
    · intro hb
      rw [if_f hb] at hm
      clear hb
      refine wp_skip ?_
      refine q_then ?_
      refine wp_seq ?_
      refine wp_region_lit ?_
      refine st_val E (wn rfl) rfl rfl (x_move E rfl rfl) ?_
      clear E; clear a; intro a E
      refine st_val E (wn rfl) rfl rfl (x_nil E rfl rfl) ?_
      clear E; clear a; intro a E
      refine st_val E (wn rfl) rfl rfl (x_fa E rfl rfl (v := .pointer (some ⟨p1, 0, none⟩)) (fa91_0 _ _)) ?_
      clear E; clear a; intro a E
      refine st_val E (wn rfl) rfl rfl (x_ldB (i := 0) E H rfl rfl rfl rfl Try.underlying46 rfl) ?_
      clear E; clear a; intro a E
      refine st_val E (wn rfl) rfl rfl (x_move E rfl rfl) ?_
      clear E; clear a; intro a E
      obtain ⟨u15, hx16, hm⟩ := bnd hm
      refine st_take E H (wn rfl) rfl rfl rfl rfl rfl hr14 Try.underlying46 sz5 (ck_of hx16) ?_
      clear E H; clear a; intro v17 a H E
      refine st_val E (wn rfl) rfl rfl (x_b2s E H rfl rfl (.head _) Try.underlying46 Try.underlying5 Try.underlying9) ?_
      clear E; clear a; intro a E
      refine st_val E (wn rfl) rfl rfl (x_assign E rfl rfl) ?_
      clear E; clear a; intro a E
      refine wpList_nil ?_
      refine q_then ?_
      refine wp_seq ?_
      refine wp_region_lit ?_
      refine st_val E (wn rfl) rfl rfl (x_move E rfl rfl) ?_
      clear E; clear a; intro a E
      refine st_val E (wn rfl) rfl rfl (x_move E rfl rfl) ?_
      clear E; clear a; intro a E
      refine st_val E (wn rfl) rfl rfl (x_nil E rfl rfl) ?_
      clear E; clear a; intro a E
      refine st_val E (wn rfl) rfl rfl (x_fa E rfl rfl (v := .pointer (some ⟨p1, 0, none⟩)) (fa91_0 _ _)) ?_
      clear E; clear a; intro a E
      refine st_val E (wn rfl) rfl rfl (x_ldB (i := 0) E H rfl rfl rfl rfl Try.underlying46 rfl) ?_
      clear E; clear a; intro a E
      refine st_val E (wn rfl) rfl rfl (x_move E rfl rfl) ?_
      clear E; clear a; intro a E
      obtain ⟨u18, hx19, hm⟩ := bnd hm
      refine st_cut E H (wn rfl) rfl rfl rfl rfl rfl (.tail _ hr14) Try.underlying46 sz5 (ck_of hx19) ?_
      clear E H; clear a; intro v20 a H E
      refine st_val E (wn rfl) rfl rfl (x_nil E rfl rfl) ?_
      clear E; clear a; intro a E
      refine st_val E (wn rfl) rfl rfl (x_fa E rfl rfl (v := .pointer (some ⟨p1, 0, none⟩)) (fa91_0 _ _)) ?_
      clear E; clear a; intro a E
      obtain ⟨q21, x22, rfl⟩ := H.slform (.head _)
      refine st_st (i := 0) E H (wn rfl) rfl (us := [(.slice q21 (l10.drop u6.1.toNat).length x22)]) rfl rfl rfl rfl rfl sz46 rfl rfl ?_
      clear H; clear w; intro w H
      replace H : Sep w (Blk p1 91 [(.slice q21 (l10.drop u6.1.toNat).length x22), .int .i64 x11] :: Fo) _ := H
      refine wpList_nil ?_
      refine q_then ?_
      refine wp_seq ?_
      refine wp_region_lit ?_
      refine st_val E (wn rfl) rfl rfl (x_move E rfl rfl) ?_
      clear E; clear a; intro a E
      refine st_val E (wn rfl) rfl rfl (x_assign E rfl rfl) ?_
      clear E; clear a; intro a E
      refine wpList_nil ?_
      refine q_then ?_
      refine wp_ret ?_
      refine out1 E rfl rfl ?_
      obtain rfl := Option.some.inj hm
      exact ⟨(.slice q21 (l10.drop u6.1.toNat).length x22), rfl, H.reads (sub_cons (.head _) (fun r hr => .tail _ (.tail _ (hs13 r hr))))⟩
end Go.Cb
