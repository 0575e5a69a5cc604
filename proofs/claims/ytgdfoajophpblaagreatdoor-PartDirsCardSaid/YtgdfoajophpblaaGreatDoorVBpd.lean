/- PartDirs, plainly. -/
import Derived.Test.YtgdfoajophpblaaGreatDoorV8pd
import Derived.Test.YtgdfoajophpblaaGreatDoorU8pd
import Derived.Test.YtgdfoajophpblaaGreatDoorKpd2
set_option linter.unusedVariables false
set_option linter.unusedSimpArgs false
namespace Go.Cb
open Go.Proofs Go.RowKit

theorem home_eq (s : ByteArray) (hp : (bl s).length ≤ 100000000) : m_cantonref07_Home s = some (mk (upP (bl s))) := by
  unfold m_cantonref07_Home
  rw [rup7_eq s hp]
  rfl
theorem parts_pos (o : Op1) : 0 < (partsOf o).length := by
  unfold partsOf
  repeat' split
  all_goals simp
theorem pdirs_l1 (d : ByteArray) (l : List Pt1) (hl : l.length ≤ 10) (hm : ∀ p ∈ l, mayP p = true) : ∀ (k i : Nat), i ≤ l.length → l.length + 1 ≤ i + k → m_cantonlaw07_PartDirs_l1 d l true k (i : Int) = some true
  | 0, i, _, h => by omega
  | k + 1, i, h0, h => by
    rw [m_cantonlaw07_PartDirs_l1]
    by_cases hi : i < l.length
    · have hmi := hm _ (List.getElem_mem hi)
      rw [if_pos (by simpa using hi), idx_lt hi]
      simp only [Option.bind_some]
      rw [partMay_eq, hmi]
      simp only [Option.bind_some]
      rw [if_neg (by simp)]
      have go : m_cantonlaw07_PartDirs_j2 (m_cantonlaw07_PartDirs_l1 d l true k) (i : Int) l[i] d l false = some true := by
        unfold m_cantonlaw07_PartDirs_j2 m_cantonlaw07_PartDirs_j3
        rw [if_neg (by simp), partMay_eq, inc1 (by omega), idx_lt hi, pdirs_l1 d l hl hm k (i + 1) (by omega) (by omega)]
        simp only [Option.bind_some]
        cases hq : mayP (⟨(l[i]).Kind, d, (l[i]).Path, (l[i]).Data, (l[i]).Version, (l[i]).Owner, (l[i]).Turns⟩ : Pt1) with
        | false => rfl
        | true =>
          have e1 : bl d = dirOf l[i] := (mayP_iff hq).2.1
          have e2 := (mayP_iff hmi).2.1
          rw [if_pos rfl, sEq_bl, e1, e2]
          simp
      have e2 := (mayP_iff hmi).2.1
      have hp := pathOk_len (mayP_path hmi)
      unfold dirOf at e2
      by_cases c : sEq (l[i]).Dir (l[i]).Path = true
      · rw [if_neg (by rw [c]; simp)]
        exact go
      · rw [if_pos (by simpa using c), home_eq _ (by omega)]
        simp only [Option.bind_some]
        rw [sEq_bl] at c
        have c' : bl (l[i]).Dir ≠ bl (l[i]).Path := by simpa using c
        split at e2
        · exact absurd e2 c'
        · rw [sEq_bl, bl_mk, e2]
          simpa using go
    · rw [if_neg (by simpa using hi)]
theorem pure_pdirs (o : Op1) (d : ByteArray) : m_cantonlaw07_PartDirs o d = some true := by
  have up : m_cantonlaw07_PartDirs_j1 d true o true = some true := rfl
  unfold m_cantonlaw07_PartDirs
  rw [head7_t]
  obtain ⟨b, h1, h2⟩ := GreatOp_eq o
  simp only [Option.bind_some]
  rw [h1]
  simp only [Option.bind_some]
  cases b with
  | true => rw [if_pos rfl]; exact up
  | false =>
    rw [if_neg (by simp)]
    cases decide ((d.size : Int) > 1000) with
    | true => exact up
    | false =>
      unfold m_cantonlaw07_PartDirs_j1
      rw [if_neg (by simp), partOf_eq, May_eq]
      simp only [Option.bind_some]
      have hl := ofS_len o
      have e : (decide (((ofS o).length : Int) > 0) != MayB o) = false := by
        unfold ofS
        cases hm : MayB o with
        | false => simp
        | true => have := parts_pos o; simp; omega
      rw [e, if_neg (by simp)]
      refine pdirs_l1 d (ofS o) (by omega) (fun p hp => ?_) (((ofS o).length - 0 : Int).toNat + 1) 0 (by omega) (by omega)
      unfold ofS at hp
      split at hp
      · exact part_may o (by assumption) p hp
      · simp at hp
end Go.Cb
