/- The texts HelpRight of this claim, joined. -/
import Derived.Test.YtomnfkihieinbaaDoorGHelpE
import Derived.Test.YtomnfkihieinbaaDoorGMapsC
import Derived.Test.YtomnfkihieinbaaDoorGHelpC
/- helper: right. -/
set_option linter.unusedVariables false
set_option linter.unusedSimpArgs false
namespace Go.Proofs.YtomnfkihieinbaaDoor.PAll
open Go.RowKit Go.Shelf Go.Maps Go.Proofs.YtomnfkihieinbaaDoorW.PrintWords Go.Proofs.YtomnfkihieinbaaDoorW.PrintLast Go.Proofs.YtomnfkihieinbaaDoorW.PrintMore
theorem OpsAt.below {w w' : World} {A : Option Addr} {l : List OpH} (h : OpsAt w A l) (hb : Below w.heap.size w w') : OpsAt w' A l := ⟨h.1, fun hl => by
  obtain ⟨ad, e, hc⟩ := h.2 hl
  exact ⟨ad, e, fun j o ho i u hu => cell_below' (n := 0) hb (hc j o ho i u hu)⟩⟩
/-- The cells of one call. -/
def OpAt (w : World) (a : Addr) (o : OpH) : Prop := w.cell? a = some (.int .i64 o.which) ∧ w.cell? ⟨a.block, a.off + 1, none⟩ = some (.int .u64 o.r0) ∧ w.cell? ⟨a.block, a.off + 2, none⟩ = some (.int .u64 o.r1) ∧ w.cell? ⟨a.block, a.off + 3, none⟩ = some (.int .u64 o.r2) ∧ w.cell? ⟨a.block, a.off + 4, none⟩ = some (.int .u64 o.r3) ∧ w.cell? ⟨a.block, a.off + 5, none⟩ = some (.int .u64 o.r4) ∧ w.cell? ⟨a.block, a.off + 6, none⟩ = some (.int .u64 o.r5) ∧ w.cell? ⟨a.block, a.off + 7, none⟩ = some (.int .u64 o.r6) ∧ w.cell? ⟨a.block, a.off + 8, none⟩ = some (.int .u64 o.r7) ∧ w.cell? ⟨a.block, a.off + 9, none⟩ = some (.int .u64 o.r8) ∧ w.cell? ⟨a.block, a.off + 10, none⟩ = some (.int .u64 o.r9) ∧ w.cell? ⟨a.block, a.off + 11, none⟩ = some (.int .u64 o.r10)
theorem OpsAt.get {w : World} {A : Option Addr} {l : List OpH} (h : OpsAt w A l) {j : Nat} {o : OpH} (ho : l[j]? = some o) : ∃ ad, A = some ad ∧ OpAt w (ad.add (j * 12)) o := by
  obtain ⟨ad, e, hc⟩ := h.2 (by have := (List.getElem?_eq_some_iff.1 ho).1; omega)
  have hx := hc j o ho
  have ha : ∀ (a : Addr) (i : Nat), 0 < i → a.add i = ⟨a.block, a.off + i, none⟩ := fun a i hi => by unfold Addr.add; rw [if_neg (by omega)]
  refine ⟨ad, e, ?_, ?_, ?_, ?_, ?_, ?_, ?_, ?_, ?_, ?_, ?_, ?_⟩
  · exact hx 0 _ rfl
  · rw [← ha _ 1 (by decide)]; exact hx 1 _ rfl
  · rw [← ha _ 2 (by decide)]; exact hx 2 _ rfl
  · rw [← ha _ 3 (by decide)]; exact hx 3 _ rfl
  · rw [← ha _ 4 (by decide)]; exact hx 4 _ rfl
  · rw [← ha _ 5 (by decide)]; exact hx 5 _ rfl
  · rw [← ha _ 6 (by decide)]; exact hx 6 _ rfl
  · rw [← ha _ 7 (by decide)]; exact hx 7 _ rfl
  · rw [← ha _ 8 (by decide)]; exact hx 8 _ rfl
  · rw [← ha _ 9 (by decide)]; exact hx 9 _ rfl
  · rw [← ha _ 10 (by decide)]; exact hx 10 _ rfl
  · rw [← ha _ 11 (by decide)]; exact hx 11 _ rfl
def whichB (o : OpH) : Bool := decide (1 ≤ o.which) && decide (o.which ≤ 3)
/-- Whether there are bytes, few correct declarations and few calls. -/
def rightF (data : List Int) (ds : List S28) (l : List OpH) : Bool := decide (data.length ≠ 0) && decide (data.length ≤ 600) && decide (ds.length ≤ 20) && decide (checkF ds = 0) && decide (l.length ≤ 40) && l.all whichB
set_option maxHeartbeats 2000000 in
set_option maxRecDepth 100000 in
theorem hright_c (X : World) (A0 A1 A2 : Option Addr) (c0 c1 c2 : Nat) (data : List Int) (ds : List S28) (l : List OpH) (hC : Kd.C k28 X A1 ds.length ds) (hc1 : ds.length ≤ c1) (hO : OpsAt X A2 l) :
    Calls Tryd.prog 16 #[.slice A0 data.length c0, .slice A1 ds.length c1, .slice A2 l.length c2] X fun e X' => e = .returned (.bool (rightF data ds l)) ∧ Below X.heap.size X X' := by
  obtain ⟨n, hn⟩ : ∃ n, data.length = n := ⟨_, rfl⟩
  obtain ⟨b, hb⟩ : ∃ b, rightF data ds l = b := ⟨_, rfl⟩
  have HB := Aside0.mk hb
  unfold rightF at hb
  rw [hn] at hb
  have HR := Aside0.mk hb
  have HN := Aside0.mk hn
  rw [HB.out, hn]
  clear hb hn
  by_cases h0 : n = 0
  · subst h0
    have e : false = b := by rw [← HR.out]; rfl
    subst e
    clear hC hc1 hO
    go_enter Tryd.func16, Tryd.ntmps16
    go_wp2_with fail
    go_ret
    exact ⟨rfl, Below.refl _ _⟩
  · have hz : ((n : Int) == 0) = false := by simp; omega
    by_cases h6 : (n : Int) > 600
    · have hd : decide ((n : Int) > 600) = true := decide_eq_true h6
      have hd' : decide (600 < (n : Int)) = true := decide_eq_true h6
      have e : false = b := by rw [← HR.out, show decide (n ≤ 600) = false from decide_eq_false (by omega)]; simp
      subst e
      clear hC hc1 hO h0 h6
      go_enter Tryd.func16, Tryd.ntmps16
      go_wp2_with fail
      go_ret
      exact ⟨rfl, Below.refl _ _⟩
    · have hd : decide ((n : Int) > 600) = false := decide_eq_false h6
      have hd' : decide (600 < (n : Int)) = false := decide_eq_false h6
      by_cases h2 : (ds.length : Int) > 20
      · have hq : decide ((ds.length : Int) > 20) = true := decide_eq_true h2
        have hq' : decide (20 < (ds.length : Int)) = true := decide_eq_true h2
        have e : false = b := by rw [← HR.out, show decide (ds.length ≤ 20) = false from decide_eq_false (by omega)]; simp
        subst e
        clear hC hc1 hO h0 h6 h2
        go_enter Tryd.func16, Tryd.ntmps16
        go_wp2_with fail
        go_ret
        exact ⟨rfl, Below.refl _ _⟩
      · have hq : decide ((ds.length : Int) > 20) = false := decide_eq_false h2
        have hq' : decide (20 < (ds.length : Int)) = false := decide_eq_false h2
        obtain ⟨r, hr⟩ : ∃ r, checkF ds = r := ⟨_, rfl⟩
        have HCK := Aside0.mk (check_c ds A1 c1 X hC hc1 r hr)
        rw [hr] at HR
        have HO := Aside0.mk hO
        have HSM : Aside0 (n ≠ 0 ∧ n ≤ 600 ∧ ds.length ≤ 20) := ⟨by omega⟩
        clear hC hc1 h0 h6 h2 hO hr
        by_cases hr0 : r = 0
        · subst hr0
          obtain ⟨m, hm⟩ : ∃ m, l.length = m := ⟨_, rfl⟩
          have HM := Aside0.mk hm
          rw [hm]
          by_cases h4 : (m : Int) > 40
          · have hw : decide ((m : Int) > 40) = true := decide_eq_true h4
            have hw' : decide (40 < (m : Int)) = true := decide_eq_true h4
            have e : false = b := by rw [← HR.out, show decide (l.length ≤ 40) = false from decide_eq_false (by omega)]; simp
            subst e
            clear h4 hm
            go_enter Tryd.func16, Tryd.ntmps16
            go_wp2_with fail
            refine HCK.out.mono ?_
            rintro e w1 ⟨rfl, hb1⟩
            go_wp2_with fail
            go_ret
            exact ⟨rfl, hb1⟩
          · have hw : decide ((m : Int) > 40) = false := decide_eq_false h4
            have hw' : decide (40 < (m : Int)) = false := decide_eq_false h4
            have HALL : Aside0 (l.all whichB = b ∧ m ≤ 40) := ⟨by
              rw [← HR.out]
              have hs := HSM.out
              rw [decide_eq_true hs.1, decide_eq_true hs.2.1, decide_eq_true hs.2.2, decide_eq_true rfl, decide_eq_true (show l.length ≤ 40 by omega)]
              simp, by omega⟩
            clear h4 hm
            go_enter Tryd.func16, Tryd.ntmps16
            go_wp2_with fail
            refine HCK.out.mono ?_
            rintro e w1 ⟨rfl, hb1⟩
            have HB1 := Aside0.mk hb1
            clear hb1
            go_wp2_with fail
            go_loopw [34] (fun v34 w => ∃ k : Nat, k ≤ m ∧ v34 = .int .i64 k ∧ Aside0 (Below X.heap.size X w) ∧ Aside0 ((l.drop k).all whichB = b)) (fun v34 _ => m - (intOf v34).toNat)
            case atStart => exact ⟨0, Nat.zero_le _, rfl, HB1, ⟨HALL.out.1⟩⟩
            case round =>
              obtain ⟨k, hk, rfl, HBk, HA⟩ := hrel
              by_cases hlt : k < m
              · have hwk : wrap64 ((k : Int) + 1) = ((k + 1 : Nat) : Int) := wk hlt (by have := HALL.out.2; omega)
                obtain ⟨o, ho⟩ : ∃ o, l[k]? = some o := ⟨_, List.getElem?_eq_getElem (by have := HM.out; omega)⟩
                obtain ⟨ad, rfl, x, x0, x1, x2, x3, x4, x5, x6, x7, x8, x9, x10⟩ := (HO.out.below HBk.out).get ho
                have hdr : l.drop k = o :: l.drop (k + 1) := by
                  have hkl : k < l.length := (List.getElem?_eq_some_iff.1 ho).1
                  rw [List.drop_eq_getElem_cons hkl]
                  congr 1
                  exact (List.getElem?_eq_some_iff.1 ho).2
                have HA2 : Aside0 ((whichB o && (l.drop (k + 1)).all whichB) = b) := ⟨by rw [← HA.out, hdr]; rfl⟩
                have hk0 : (0 : Int) ≤ (k : Int) := by omega
                have hk1 : (k : Int) < (m : Int) := by omega
                have hdl : decide ((k : Int) < (m : Int)) = true := decide_eq_true hk1
                clear ho hdr
                obtain ⟨wh, hwh⟩ : ∃ wh, o.which = wh := ⟨_, rfl⟩
                rw [hwh] at x
                by_cases g1 : wh < 1
                · have hg : decide (wh < 1) = true := decide_eq_true g1
                  have e : false = b := by rw [← HA2.out]; unfold whichB; rw [hwh, show decide (1 ≤ wh) = false from decide_eq_false (by omega)]; simp
                  subst e
                  clear g1 hwh
                  go_wp2_with fail
                  go_ret
                  exact ⟨rfl, below_alloc HBk.out _⟩
                · have hg : decide (wh < 1) = false := decide_eq_false g1
                  by_cases g3 : wh > 3
                  · have hg3 : decide (wh > 3) = true := decide_eq_true g3
                    have hg3' : decide (3 < wh) = true := decide_eq_true g3
                    have e : false = b := by rw [← HA2.out]; unfold whichB; rw [hwh, show decide (wh ≤ 3) = false from decide_eq_false (by omega)]; simp
                    subst e
                    clear g1 g3 hwh
                    go_wp2_with fail
                    go_ret
                    exact ⟨rfl, below_alloc HBk.out _⟩
                  · have hg3 : decide (wh > 3) = false := decide_eq_false g3
                    have hg3' : decide (3 < wh) = false := decide_eq_false g3
                    have HA3 : Aside0 ((l.drop (k + 1)).all whichB = b) := ⟨by rw [← HA2.out]; unfold whichB; rw [hwh, decide_eq_true (show 1 ≤ wh by omega), decide_eq_true (show wh ≤ 3 by omega)]; simp⟩
                    clear g1 g3 hwh
                    go_wp2_with fail
                    rw [hwk]
                    refine ⟨⟨k + 1, hlt, rfl, ⟨below_alloc HBk.out _⟩, HA3⟩, ?_⟩
                    show m - (((k + 1 : Nat) : Int)).toNat < m - ((k : Nat) : Int).toNat
                    rw [Int.toNat_natCast, Int.toNat_natCast]
                    exact Nat.sub_lt_sub_left hlt (Nat.lt_succ_self k)
              · obtain rfl : k = m := Nat.le_antisymm hk (Nat.le_of_not_lt hlt)
                have hdl : decide ((k : Int) < (k : Int)) = false := decide_eq_false (by omega)
                have e : true = b := by rw [← HA.out, List.drop_eq_nil_of_le (by have := HM.out; omega)]; rfl
                subst e
                go_wp2_with fail
                go_ret
                exact ⟨rfl, HBk.out⟩
        · have hne : (r != 0) = true := by simp [hr0]
          have hne' : decide (r ≠ 0) = true := decide_eq_true hr0
          have hne2 : (r == 0) = false := by simp [hr0]
          have e : false = b := by rw [← HR.out, show decide (r = 0) = false from decide_eq_false hr0]; simp
          subst e
          clear hr0
          go_enter Tryd.func16, Tryd.ntmps16
          go_wp2_with fail
          refine HCK.out.mono ?_
          rintro e w1 ⟨rfl, hb1⟩
          go_wp2_with fail
          go_ret
          exact ⟨rfl, hb1⟩
end Go.Proofs.YtomnfkihieinbaaDoor.PAll
