/- Laws of what is known of an address behind what is told of it: plain, no program in sight. -/
import Derived.Test.YtkpgchhbeebgkaaTkd
namespace Go.Proofs.Ytkpgchhbeebgkaa
set_option linter.unusedVariables false
set_option linter.unusedSimpArgs false

theorem clk0 (n : Int) : clkAdd n 0 = mom n := by unfold clkAdd mom bnd; omega
theorem bare_right {b v : Int} (hb : b = 0 ∨ b = 1 ∨ b = 5) (hv : okT v) : RightP (bareL b v).b (bareL b v).c (bareL b v).u (bareL b v).k (bareL b v).t (bareL b v).z (bareL b v).v :=
  ⟨⟨by unfold okT bareL; simp, by unfold okT bareL; simp, by unfold okT bareL; simp, by unfold okT bareL; simp, hv⟩, .inr ⟨hb, rfl, rfl, rfl, rfl, rfl⟩⟩
theorem takeV_no {la : Int} {l : Lz} {m0 ma mb : Int} {mc : ByteArray} {mp mt st now gd : Int} (h : (takeV la l m0 ma mb mc mp mt st now gd).2 = false) : (takeV la l m0 ma mb mc mp mt st now gd).1 = l := by
  unfold takeV actV endV freeV at *
  repeat' split
  all_goals (first | rfl | (simp_all; done) | (simp_all; split at h <;> simp_all))
theorem takeV_fair {la : Int} {l : Lz} {m0 ma mb : Int} {mc : ByteArray} {mp mt st now gd : Int} (h : (takeV la l m0 ma mb mc mp mt st now gd).2 = true) : FairP la l.b l.c l.u l.k l.t l.z l.v m0 ma mb mc mp mt := by
  unfold takeV at h
  split at h
  · assumption
  · cases h
theorem takeV_keeps {la : Int} {l : Lz} {m0 ma mb : Int} {mc : ByteArray} {mp mt st now gd : Int} (h : (takeV la l m0 ma mb mc mp mt st now gd).2 = true) (h2 : l.b = 2) (ho : clkPast now l.u 0 = false) (h4 : mb ≠ 4) (h5 : mb ≠ 5) :
    (takeV la l m0 ma mb mc mp mt st now gd).1.b = 2 ∧ (takeV la l m0 ma mb mc mp mt st now gd).1.c = l.c ∧ (takeV la l m0 ma mb mc mp mt st now gd).1.u = l.u ∧ (takeV la l m0 ma mb mc mp mt st now gd).1.k = l.k ∧ l.t ≤ (takeV la l m0 ma mb mc mp mt st now gd).1.t := by
  have hf := takeV_fair h
  unfold takeV at *
  rw [if_pos hf] at *
  rw [ho] at *
  obtain ⟨b, c, u, k, t, z, v⟩ := l
  simp only at h2
  subst h2
  by_cases m2 : mb = 2
  · rw [if_pos m2] at *
    unfold actV at *
    by_cases hc : c = mc
    · simp_all
      omega
    · simp_all
  · by_cases m3 : mb = 3
    · rw [if_neg m2, if_pos m3] at *
      unfold endV at *
      simp_all
    · rw [if_neg m2, if_neg m3, if_neg h4, if_neg h5] at *
      unfold freeV at *
      simp_all

theorem takeV_twice {la : Int} {l : Lz} {m0 ma mb : Int} {mc : ByteArray} {mp mt st now gd : Int} (h : (takeV la l m0 ma mb mc mp mt st now gd).2 = true) :
    takeV la (takeV la l m0 ma mb mc mp mt st now gd).1 m0 ma mb mc mp mt st now gd = ((takeV la l m0 ma mb mc mp mt st now gd).1, true) ∧ RightP (takeV la l m0 ma mb mc mp mt st now gd).1.b (takeV la l m0 ma mb mc mp mt st now gd).1.c (takeV la l m0 ma mb mc mp mt st now gd).1.u (takeV la l m0 ma mb mc mp mt st now gd).1.k (takeV la l m0 ma mb mc mp mt st now gd).1.t (takeV la l m0 ma mb mc mp mt st now gd).1.z (takeV la l m0 ma mb mc mp mt st now gd).1.v := by
  have hf := takeV_fair h
  obtain ⟨x, hx⟩ : ∃ x, x = (takeV la l m0 ma mb mc mp mt st now gd).1 := ⟨_, rfl⟩
  rw [← hx]
  obtain ⟨hr, h0, ha, hv, hk⟩ := hf
  have hr' := hr
  have hm := mom_range mp
  have hm2 := mom_range mt
  unfold takeV at h hx
  rw [if_pos ⟨hr, h0, ha, hv, hk⟩] at h hx
  have fin : ∀ y : Lz, RightP y.b y.c y.u y.k y.t y.z y.v → takeV la y m0 ma mb mc mp mt st now gd = (if mb = 2 then actV y mc (clkAdd mp 0) mt (recV st) (clkPast now y.u 0) else if mb = 3 then endV y 3 mc mt mp (clkPast now y.u 0) else if mb = 4 then endV y 4 mc mt mp (decide (y.z = 0) || clkPast mt y.z gd) else if mb = 5 then (bareL 5 y.v, true) else freeV y mb mt (recV st) (clkPast now y.u 0)) := fun y hy => by
    unfold takeV
    rw [if_pos ⟨hy, h0, ha, hv, hk⟩]
  by_cases m2 : mb = 2
  · rw [if_pos m2] at h hx
    have hvv : verV mb mp mt = mt := by unfold verV; rw [if_neg (by omega)]
    rw [hvv] at hv
    have key : RightP x.b x.c x.u x.k x.t x.z x.v ∧ x.b = 2 ∧ x.c = mc ∧ x.t = max x.t (mom mp) ∧ x.v = max x.v mt := by
      unfold actV at h hx
      rw [clk0] at h hx
      split at hx
      · rename_i c5; simp [c5] at h
      · rename_i c5
        split at hx
        · rename_i c2
          subst hx
          refine ⟨?_, c2.1, c2.2, by simp only; omega, by simp only; omega⟩
          unfold RightP okT at *
          simp only
          omega
        · rename_i c2
          split at hx
          · rename_i c3; simp [c5, c2, c3] at h
          · subst hx
            refine ⟨?_, rfl, rfl, by simp only; omega, by simp only; omega⟩
            unfold RightP okT at *
            simp only
            omega
    obtain ⟨k1, k2, k3, k4, k5⟩ := key
    refine ⟨?_, k1⟩
    rw [fin x k1, if_pos m2]
    unfold actV
    rw [if_neg (by omega), if_pos ⟨k2, k3⟩, clk0, ← k4, ← k5]
  · by_cases m34 : mb = 3 ∨ mb = 4
    · have hvv : verV mb mp mt = mp := by unfold verV; rw [if_pos (by omega)]
      rw [hvv] at hv
      have key : ∀ y : Bool, (endV l mb mc mt mp y).2 = true → ∀ x, x = (endV l mb mc mt mp y).1 → RightP x.b x.c x.u x.k x.t x.z x.v ∧ (x.b = 5 ∨ ((x.b = 3 ∨ x.b = 4) ∧ x.v = mp)) := by
        intro y h x hx
        unfold endV at h hx
        by_cases c5 : l.b = 5
        · rw [if_pos c5] at h hx
          subst hx
          exact ⟨hr, .inl c5⟩
        · rw [if_neg c5] at h hx
          by_cases cl : mp < l.v
          · rw [if_pos cl] at h; cases h
          · rw [if_neg cl] at h hx
            by_cases c2 : l.b = 2
            · rw [if_pos c2] at h hx
              split at hx
              · rename_i c6; rw [if_pos c6] at h; cases h
              · subst hx
                refine ⟨?_, .inr ⟨by simp only; omega, rfl⟩⟩
                unfold RightP okT at *
                simp only
                omega
            · rw [if_neg c2] at h hx
              by_cases c3 : (l.b = 3 ∨ l.b = 4) ∧ l.v = mp
              · rw [if_pos c3] at hx
                subst hx
                exact ⟨hr, .inr c3⟩
              · rw [if_neg c3] at hx
                subst hx
                refine ⟨?_, .inr ⟨by simp only; omega, rfl⟩⟩
                rw [clk0]
                unfold RightP okT at *
                simp only
                split <;> omega
      have key2 : ∀ y : Bool, (x.b = 5 ∨ ((x.b = 3 ∨ x.b = 4) ∧ x.v = mp)) → endV x mb mc mt mp y = (x, true) := by
        intro y hk
        unfold endV
        rcases hk with hk | ⟨hk, hk2⟩
        · rw [if_pos hk]
        · rw [if_neg (by omega), if_neg (by omega), if_neg (by omega), if_pos ⟨hk, hk2⟩]
      by_cases m3 : mb = 3
      · subst m3
        rw [if_neg m2, if_pos rfl] at h hx
        obtain ⟨k1, k2⟩ := key _ h x hx
        refine ⟨?_, k1⟩
        rw [fin x k1, if_neg m2, if_pos rfl]
        exact key2 _ k2
      · obtain rfl : mb = 4 := by omega
        rw [if_neg m2, if_neg m3, if_pos rfl] at h hx
        obtain ⟨k1, k2⟩ := key _ h x hx
        refine ⟨?_, k1⟩
        rw [fin x k1, if_neg m2, if_neg m3, if_pos rfl]
        exact key2 _ k2
    · have hvv : verV mb mp mt = mt := by unfold verV; rw [if_neg (by omega)]
      rw [hvv] at hv
      have m3 : ¬ mb = 3 := by omega
      have m4 : ¬ mb = 4 := by omega
      rw [if_neg m2, if_neg m3, if_neg m4] at h hx
      have hsz : (⟨#[]⟩ : ByteArray).size = 0 := rfl
      by_cases m5 : mb = 5
      · rw [if_pos m5] at hx
        have k1 : RightP x.b x.c x.u x.k x.t x.z x.v := by
          subst hx
          exact bare_right (by omega) hr.1.2.2.2.2
        refine ⟨?_, k1⟩
        rw [fin x k1, if_neg m2, if_neg m3, if_neg m4, if_pos m5, hx]
        rfl
      · rw [if_neg m5] at h hx
        unfold freeV at h hx
        split at hx
        · rename_i c; rw [if_pos c] at h; cases h
        · rename_i c
          by_cases cl : l.v < mt
          · rw [if_pos cl] at hx
            have k1 : RightP x.b x.c x.u x.k x.t x.z x.v := by
              subst hx
              exact bare_right (by rcases hk with hk | hk <;> omega) hv
            refine ⟨?_, k1⟩
            rw [fin x k1, if_neg m2, if_neg m3, if_neg m4, if_neg m5, hx]
            unfold freeV bareL
            simp only
            rw [if_neg (by omega), if_neg (by omega)]
            simp
            omega
          · rw [if_neg c, if_neg cl] at h
            rw [if_neg cl] at hx
            have k1 : RightP x.b x.c x.u x.k x.t x.z x.v := by subst hx; exact hr
            refine ⟨?_, k1⟩
            rw [fin x k1, if_neg m2, if_neg m3, if_neg m4, if_neg m5, hx]
            unfold freeV
            rw [if_neg (by simp only; intro hc; apply c; rcases hc with hc | hc; exact .inl hc; exact .inr hc), if_neg cl]
            simp only at h
            rw [h]

theorem takeV_agree {la oa : Int} {l : Lz} {ob : Int} {oc : ByteArray} {ou ok ot oz ov st now gd : Int} (hr : RightP ob oc ou ok ot oz ov) (h3 : ob ≠ 3) (h4 : ob ≠ 4) (h : (takeV la l 2 oa ob oc (max ou ot) ov st now gd).2 = true) :
    ((ob = 0 ∨ ob = 1) ∧ ov ≤ l.v ∧ (takeV la l 2 oa ob oc (max ou ot) ov st now gd).1 = l) ∨ (¬ ((ob = 0 ∨ ob = 1) ∧ ov ≤ l.v) ∧
      (takeV la l 2 oa ob oc (max ou ot) ov st now gd).1.b = ob ∧ (takeV la l 2 oa ob oc (max ou ot) ov st now gd).1.c = oc ∧ (ob = 2 → ou ≤ (takeV la l 2 oa ob oc (max ou ot) ov st now gd).1.t) ∧ ((ob = 0 ∨ ob = 1) → (takeV la l 2 oa ob oc (max ou ot) ov st now gd).1.v = ov)) := by
  have hf := takeV_fair h
  have hm : ou ≤ mom (max ou ot) := by
    have := hr.1.1
    unfold okT at this
    unfold mom bnd
    omega
  have he : ob = 2 ∨ oc = { data := #[] } := by
    rcases hr.2 with h1 | h1
    · left; omega
    · right
      have hs : oc.data.size = 0 := h1.2.1
      have : oc.data = #[] := Array.eq_empty_of_size_eq_zero hs
      cases oc
      simp_all
  unfold takeV at *
  rw [if_pos hf] at *
  by_cases m2 : ob = 2
  · rw [if_pos m2] at *
    right
    refine ⟨by omega, ?_⟩
    unfold actV at *
    rw [clk0] at *
    by_cases c5 : l.b = 5
    · rw [if_pos c5] at h; cases h
    · rw [if_neg c5] at *
      by_cases c2 : l.b = 2 ∧ l.c = oc
      · rw [if_pos c2] at *
        exact ⟨by simp only; omega, c2.2, fun _ => by simp only; omega, by omega⟩
      · rw [if_neg c2] at *
        split at h
        · cases h
        · rename_i c3
          rw [if_neg c3]
          exact ⟨m2.symm, rfl, fun _ => hm, by omega⟩
  · have he := he.resolve_left m2
    rw [if_neg m2, if_neg h3, if_neg h4] at *
    by_cases m5 : ob = 5
    · rw [if_pos m5]
      right
      exact ⟨by omega, m5.symm, he.symm, by omega, by omega⟩
    · rw [if_neg m5] at *
      have hbb : ob = 0 ∨ ob = 1 := by
        rcases hf.2.2.2.2 with h1 | h1 <;> omega
      unfold freeV at *
      split at h
      · cases h
      · rename_i c
        rw [if_neg c]
        by_cases cl : l.v < ov
        · rw [if_pos cl]
          right
          exact ⟨by omega, rfl, he.symm, by omega, fun _ => rfl⟩
        · rw [if_neg cl]
          left
          exact ⟨hbb, by omega, rfl⟩

theorem takeV_shares {a ob ov lb lv : Int} (ho : ob = 0 ∨ ob = 1) (hl : lb = 0 ∨ lb = 1) (hov : 0 ≤ ov ∧ ov ≤ 1073741824) (hlv : 0 ≤ lv ∧ lv ≤ 1073741824) (hne : lv ≠ ov) :
    takeV a (bareL ob ov) 2 a lb { data := #[] } 0 lv 1 5 2 = (if ov < lv then bareL lb lv else bareL ob ov, true) := by
  have hsz : (⟨#[]⟩ : ByteArray).size = 0 := rfl
  have hv : verV lb 0 lv = lv := by unfold verV; rw [if_neg (by omega)]
  unfold takeV
  rw [if_pos ⟨bare_right (by omega) ⟨hov.1, by omega⟩, rfl, rfl, by rw [hv]; unfold okT; omega, .inr (by omega)⟩, if_neg (by omega), if_neg (by omega), if_neg (by omega), if_neg (by omega)]
  unfold freeV bareL
  simp only
  rw [if_neg (by omega)]
  split
  · rfl
  · congr
    rw [decide_eq_true_eq]
    omega

end Go.Proofs.Ytkpgchhbeebgkaa
