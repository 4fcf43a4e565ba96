-- By a program of this session (xp.py) over the kit's print, with texts of this session.
import Derived.Test.YthahmmmkojeddaaDoorPAllx0
import Derived.Test.YthahmmmkojeddaaDoorPAllx2
import Derived.Test.YthahmmmkojeddaaDoorPAllx3
import Derived.Test.YthahmmmkojeddaaDoorNumBase
import Derived.WalkSpells
import Derived.RangeFuncBox
import Derived.Laws.RangeAny
namespace Go.Proofs.YthahmmmkojeddaaDoor.PAll
open Go.RowKit Go.Proofs.YthahmmmkojeddaaDoorW.PrintWords Go.Proofs.YthahmmmkojeddaaDoorW.PrintLast Go.Proofs.YthahmmmkojeddaaDoorW.PrintMore
attribute [local go_sem] max2_int min2_int max_two min_two max_three min_three max_four min_four   -- for this text's walks alone
set_option linter.unusedVariables false
set_option linter.unusedSimpArgs false

-- EXTERN
-- XIMPORT Derived.Test.YthahmmmkojeddaaDoorNumBase Derived.WalkSpells Derived.RangeFuncBox Derived.Laws.RangeAny
/-! ### num.reader and its function -/
def digR (base c : Int) : Int := if 48 ≤ c ∧ c ≤ 57 then c - 48 else if base = 16 ∧ 97 ≤ c ∧ c ≤ 102 then c - 97 + 10 else if base = 16 ∧ 65 ≤ c ∧ c ≤ 70 then c - 65 + 10 else -1
set_option maxHeartbeats 8000000 in
set_option maxRecDepth 100000 in
theorem num_digit (c base : Int) (R : Nat) (w : World) (hc0 : 0 ≤ c) (hc1 : c ≤ 2147483647) (hR : w.cell? ⟨R, 0, none⟩ = some (.int .i64 base)) :
    Calls Tryd.prog 34 #[.int .i32 c, .pointer (some ⟨R, 0, none⟩)] w fun e w' => e = .returned (.int .i64 (digR base c)) ∧ w' = w := by
  go_enter Tryd.func34, Tryd.ntmps34
  go_wp2
  all_goals (go_ret; refine ⟨congrArg (fun z => Ending.returned (Value.int IntKind.i64 z)) (?_ : _ = digR _ c), rfl⟩)
  all_goals (try simp only [beq_eq_false_iff_ne, ne_eq, beq_iff_eq] at *)
  all_goals (unfold digR; first | (rw [if_pos (by omega)]; done) | (rw [if_neg (by omega), if_pos (by omega)]; done) | (rw [if_neg (by omega), if_neg (by omega), if_pos (by omega)]; done) | (rw [if_neg (by omega), if_neg (by omega), if_neg (by omega)]; done))
theorem digR_bounds (base c : Int) (h : 0 ≤ digR base c) : digR base c < 16 := by
  unfold digR at h ⊢
  split
  · omega
  · split
    · omega
    · split
      · omega
      · omega
set_option maxHeartbeats 1000000 in
/-- reader hands back the function over a box of the base. -/
theorem num_reader (base : Int) (w : World) :
    Calls Tryd.prog 24 #[.int .i64 base] w fun e w' => e = .returned (.func (.func 34) #[] #[.pointer (some ⟨w.heap.size, 0, none⟩)]) ∧ w' = w.alloc (.cells #[.int .i64 base] 3) := by
  have hmf : ∀ (fn : Fn) (first cap : Array Value) (w : World), (Instr.makeFunc fn first cap).run Tryd.prog w = .ok (.func fn first cap) w := fun _ _ _ _ => rfl
  go_enter Tryd.func24, Tryd.ntmps24
  go_wp2
  go_ret
  exact ⟨rfl, rfl⟩
/-! ### num.Parse -/
/-- The digits of a numeral: the value, and whether it has run over. -/
def readL (base : Int) : List UInt8 → Int → Bool → Option (Int × Bool)
  | [], v, o => some (v, o)
  | b :: r, v, o => if digR base b.toNat < 0 then none else readL base r ((v * base + digR base b.toNat) % 18446744073709551616) (o || decide (v > (18446744073709551615 - digR base b.toNat) / base))
def parseT (m : Bool) (bits : Int) (r : Option (Int × Bool)) : Int × Int :=
  match r with
  | none => (0, 3)
  | some (v, o) => if o = true ∨ knownB bits = false then (0, 4) else
      if (m = true ∧ v > 2 ^ (bits - 1).toNat) ∨ (m = false ∧ bits < 64 ∧ v ≥ 2 * 2 ^ (bits - 1).toNat) then (0, 4) else ((num_Extend.f (if m = true then (0 - v) % 18446744073709551616 else v) bits).getD 0, 0)
def parseB (m : Bool) (base : Int) (l : List UInt8) (bits : Int) : Int × Int := if l = [] then (0, 3) else parseT m bits (readL base l 0 false)
def parseP (l : List UInt8) (bits : Int) : Int × Int :=
  if Lib.hasPrefix (Lib.trimPrefix l [45]) [48, 120] = true then parseB (Lib.hasPrefix l [45]) 16 (Lib.trimPrefix (Lib.trimPrefix l [45]) [48, 120]) bits else parseB (Lib.hasPrefix l [45]) 10 (Lib.trimPrefix l [45]) bits
def num_Parse.f (a0 : ByteArray) (a1 : Int) : Option (Int × Int) := if a0.size ≤ 1099511627776 then some (parseP a0.data.toList a1) else none
theorem u64_mod (n : Int) : IntKind.u64.wrap n = n % 18446744073709551616 := by simp [IntKind.wrap, IntKind.bits, IntKind.signed]
theorem readL_none (base : Int) (b : UInt8) (r : List UInt8) (v : Int) (o : Bool) (h : digR base b.toNat < 0) : readL base (b :: r) v o = none := by simp only [readL]; rw [if_pos h]
theorem readL_some (base : Int) (b : UInt8) (r : List UInt8) (v : Int) (o : Bool) (h : ¬ digR base b.toNat < 0) : readL base (b :: r) v o = readL base r ((v * base + digR base b.toNat) % 18446744073709551616) (o || decide (v > (18446744073709551615 - digR base b.toNat) / base)) := by simp only [readL]; rw [if_neg h]
theorem digR_high (base c : Int) (h : 128 ≤ c) : digR base c = -1 := by
  unfold digR
  rw [if_neg (by omega), if_neg (by omega), if_neg (by omega)]
theorem known_cases {bits : Int} (h : knownB bits = true) : bits = 8 ∨ bits = 16 ∨ bits = 32 ∨ bits = 64 := by
  unfold knownB widthsTab at h
  simpa using h
theorem num_Extend_at (x bits : Int) (h : knownB bits = true) : num_Extend.f x bits = some (shr .i64 (wrap64 (shl .u64 x (wrap64 (64 - bits)))) (wrap64 (64 - bits))) := by
  unfold num_Extend.f num_known.f
  simp only [Option.bind_some]
  rw [h, if_pos rfl, if_pos]
  rcases known_cases h with rfl | rfl | rfl | rfl <;> (unfold wrap64; omega)
theorem iter_cell {w : World} {k R : Nat} {s : ByteArray} {p : Nat} {v : Value} (h : w.cell? ⟨R, 0, none⟩ = some v) (hne : R ≠ k) : (w.iterAt k s p).cell? ⟨R, 0, none⟩ = some v := by
  unfold World.cell? at h ⊢
  rw [Lib.iterAt_other w k R s p hne]
  exact h
set_option maxHeartbeats 32000000 in
set_option maxRecDepth 100000 in
theorem num_Parse.walk16 (a0 : ByteArray) (a1 : Int) (l1 l2 : List UInt8) (m : Bool) (w : World) (hL : Laid4 w) (hlen : l2.length ≤ 1099511627776)
    (hp : parseP a0.data.toList a1 = parseB m 16 l2 a1)
    (C1 : Aside0 (∀ w : World, Calls Tryd.prog 23 #[.string a0, .string ⟨#[45]⟩] w fun e w' => e = .returned (.tuple #[.string ⟨l1.toArray⟩, .bool m]) ∧ w' = w))
    (C2 : Aside0 (∀ w : World, Calls Tryd.prog 23 #[.string ⟨l1.toArray⟩, .string ⟨#[48, 120]⟩] w fun e w' => e = .returned (.tuple #[.string ⟨l2.toArray⟩, .bool true]) ∧ w' = w)) :
    Calls Tryd.prog 10 #[.string a0, .int .i64 a1] w fun e w' => e = .returned (.tuple #[.int .i64 (parseP a0.data.toList a1).1, .int .i64 (parseP a0.data.toList a1).2]) ∧ Below w.heap.size w w' := by
  have HL := Aside0.mk hL
  have HP := Aside0.mk hp
  clear hL hp
  by_cases hne : l2 = []
  · have e : parseP a0.data.toList a1 = (0, 3) := by rw [HP.out, parseB, if_pos hne]
    rw [e]
    subst hne
    clear HP
    go_enter Tryd.func10, Tryd.ntmps10
    go_wp2_with (first
      | (go_at_call 23; with_reducible refine (C1.out _).mono ?_; rintro e w' ⟨rfl, rfl⟩)
      | (go_at_call 23; with_reducible refine (C2.out _).mono ?_; rintro e w' ⟨rfl, rfl⟩))
    go_ret2
    exact ⟨rfl, Below.refl _ _⟩
  have hemp : ¬ l2.toArray = #[] := fun h => hne (by simpa using h)
  have hemp2 : l2.isEmpty = false := by
    cases l2 with
    | nil => exact absurd rfl hne
    | cons _ _ => rfl
  obtain ⟨RES, hres⟩ : ∃ RES, readL 16 l2 0 false = RES := ⟨_, rfl⟩
  have HP2 := Aside0.mk (show parseP a0.data.toList a1 = parseT m a1 RES by rw [HP.out, parseB, if_neg hne, hres])
  have HRES := Aside0.mk hres
  clear hres hne HP
  go_enter Tryd.func10, Tryd.ntmps10
  go_wp2_with (first
    | (go_at_call 23; with_reducible refine (C1.out _).mono ?_; rintro e w' ⟨rfl, rfl⟩)
    | (go_at_call 23; with_reducible refine (C2.out _).mono ?_; rintro e w' ⟨rfl, rfl⟩))
  refine (num_reader _ _).mono ?_
  rintro e w1 ⟨rfl, rfl⟩
  clear C1 C2
  go_wp2
  go_loopw [11, 12] (fun v11 v12 wr => ∃ (pos : Nat) (v : Int) (o : Bool), v11 = .int .u64 v ∧ v12 = .bool o ∧ 0 ≤ v ∧ v ≤ 18446744073709551615 ∧ pos ≤ l2.length ∧ Aside0 (readL 16 (l2.drop pos) v o = RES) ∧ Aside0 (wr.heap[w'.heap.size + 1]? = some (.stringIter ⟨l2.toArray⟩ pos)) ∧ Aside0 (wr.cell? ⟨w'.heap.size, 0, none⟩ = some (.int .i64 16)) ∧ Aside0 (Below w'.heap.size w' wr)) (fun _ _ wr => l2.length - wr.iterPos (w'.heap.size + 1))
  case atStart =>
    refine ⟨0, 0, false, rfl, rfl, by omega, by omega, Nat.zero_le _, HRES, ⟨?_⟩, ⟨?_⟩, ⟨(below_alloc (below_alloc (Below.refl _ _) _) _)⟩⟩
    · have := World.iter_heap (w'.alloc (.cells #[.int .i64 16] 3)) ⟨l2.toArray⟩ 0
      simpa using this
    · exact ((Boxed.new w' 3 (.int .i64 16)).alloc _).cell
  case round =>
    obtain ⟨pos, v, o, rfl, rfl, hv0, hv1, hpos, HREL, HIT, HRC, HB⟩ := hrel
    by_cases hlt : pos < l2.length
    · obtain ⟨b, hbe⟩ : ∃ b, b = l2[pos] := ⟨_, rfl⟩
      have hdr : l2.drop pos = b :: l2.drop (pos + 1) := by rw [hbe]; exact List.drop_eq_getElem_cons hlt
      have hrel2 := HREL.out
      rw [hdr] at hrel2
      have hsz : pos < (⟨l2.toArray⟩ : ByteArray).size := by simpa [ByteArray.size] using hlt
      have hbs : (⟨l2.toArray⟩ : ByteArray)[pos]'hsz = b := by rw [hbe]; rfl
      have hb8 := b.toNat_lt
      by_cases hd : digR 16 b.toNat < 0
      · rw [readL_none _ _ _ _ _ hd] at hrel2
        have e3 : parseP a0.data.toList a1 = (0, 3) := by rw [HP2.out, ← hrel2]; rfl
        have E3 := Aside0.mk e3
        clear e3
        obtain ⟨c, hc0, hc1, hcd, p2, hnx⟩ : ∃ c : Int, 0 ≤ c ∧ c ≤ 2147483647 ∧ digR 16 c < 0 ∧ ∃ p2, ∀ ty, (Instr.next (.pointer (some ⟨w'.heap.size + 1, 0, none⟩)) true ty).run Tryd.prog wr = .ok (.tuple #[.bool true, .int .i64 pos, .int .i32 c]) (wr.iterAt (w'.heap.size + 1) ⟨l2.toArray⟩ p2) := by
          by_cases ha : b.toNat < 128
          · refine ⟨b.toNat, by omega, by omega, hd, pos + 1, fun ty => ?_⟩
            have h := Lib.run_next_ascii_at (P := Tryd.prog) wr (w'.heap.size + 1) ⟨l2.toArray⟩ pos ty HIT.out hsz (by rw [hbs]; exact ha)
            rw [hbs] at h
            exact h
          · have hh := decode_high ⟨l2.toArray⟩ pos hsz (by rw [hbs]; omega)
            have hle := decode_le ⟨l2.toArray⟩ pos
            refine ⟨(Utf8.decode ⟨l2.toArray⟩ pos).1, by omega, by omega, by rw [digR_high _ _ (by omega)]; decide, _, fun ty => Lib.run_next_any_at (P := Tryd.prog) wr (w'.heap.size + 1) ⟨l2.toArray⟩ pos ty HIT.out hsz⟩
        have hrc2 := iter_cell (k := w'.heap.size + 1) (s := ⟨l2.toArray⟩) (p := p2) HRC.out (by omega)
        have HB2 := Aside0.mk (Lib.below_iterAt HB.out (k := w'.heap.size + 1) (by omega) ⟨l2.toArray⟩ p2)
        clear hd hrel2 hdr hbs hbe
        go_wp2_with (go_at_call 34; refine (num_digit c 16 w'.heap.size _ hc0 hc1 hrc2).mono ?_; rintro e w2 ⟨rfl, rfl⟩)
        go_ret2
        exact ⟨by rw [E3.out]; rfl, HB2.out⟩
      · rw [readL_some _ _ _ _ _ hd] at hrel2
        have ha : b.toNat < 128 := by
          refine Decidable.byContradiction fun h => hd ?_
          rw [digR_high _ _ (by omega)]; decide
        have hnx : ∀ ty, (Instr.next (.pointer (some ⟨w'.heap.size + 1, 0, none⟩)) true ty).run Tryd.prog wr = .ok (.tuple #[.bool true, .int .i64 pos, .int .i32 b.toNat]) (wr.iterAt (w'.heap.size + 1) ⟨l2.toArray⟩ (pos + 1)) := fun ty => by
          have h := Lib.run_next_ascii_at (P := Tryd.prog) wr (w'.heap.size + 1) ⟨l2.toArray⟩ pos ty HIT.out hsz (by rw [hbs]; exact ha)
          rw [hbs] at h
          exact h
        have hrc2 := iter_cell (k := w'.heap.size + 1) (s := ⟨l2.toArray⟩) (p := pos + 1) HRC.out (by omega)
        have HRC2 := Aside0.mk hrc2
        have HB2 := Aside0.mk (Lib.below_iterAt HB.out (k := w'.heap.size + 1) (by omega) ⟨l2.toArray⟩ (pos + 1))
        have HIT2 := Aside0.mk (Lib.iterAt_heap wr (w'.heap.size + 1) ⟨l2.toArray⟩ pos (pos + 1) HIT.out)
        obtain ⟨c, hce⟩ : ∃ c : Int, c = (b.toNat : Int) := ⟨_, rfl⟩
        rw [← hce] at hrel2 hd hnx
        have hc0 : 0 ≤ c := by omega
        have hc1 : c ≤ 2147483647 := by omega
        obtain ⟨d, hde⟩ : ∃ d, digR 16 c = d := ⟨_, rfl⟩
        have hd0 : 0 ≤ d := by omega
        have hd1 : d < 16 := by rw [← hde]; exact digR_bounds _ _ (by omega)
        rw [hde] at hrel2
        have HREL2 := Aside0.mk hrel2
        have HDIG := Aside0.mk (num_digit c 16 w'.heap.size _ hc0 hc1 hrc2)
        rw [hde] at HDIG
        clear hrel2 hd hdr hbs hbe hde hce hrc2 hc0 hc1 ha hb8
        go_wp2_with (go_at_call 34; refine HDIG.out.mono ?_; rintro e w2 ⟨rfl, rfl⟩)
        all_goals (
          refine ⟨⟨pos + 1, _, _, rfl, rfl, ?_, ?_, by omega, ⟨?_⟩, HIT2, HRC2, HB2⟩, ?_⟩
          · rw [u64_mod]; omega
          · rw [u64_mod]; omega
          · have h_ := HREL2.out
            simp only [u64_mod]
            rw [show ((v * 16 % 18446744073709551616 + d) % 18446744073709551616) = ((v * 16 + d) % 18446744073709551616) by omega]
            simp_all
          · have h1 := HIT2.out
            have h2 := HIT.out
            simp only [World.iterPos, h1, h2]
            omega)
    · obtain rfl : pos = l2.length := by omega
      have hsz : ¬ l2.length < (⟨l2.toArray⟩ : ByteArray).size := by simp [ByteArray.size]
      have hnx : ∀ ty, (Instr.next (.pointer (some ⟨w'.heap.size + 1, 0, none⟩)) true ty).run Tryd.prog wr = .ok (.tuple #[.bool false]) wr := fun ty => Lib.run_next_end_at wr (w'.heap.size + 1) ⟨l2.toArray⟩ l2.length ty HIT.out hsz
      have hrel2 := HREL.out
      rw [List.drop_length] at hrel2
      have e4 : parseP a0.data.toList a1 = parseT m a1 (some (v, o)) := by rw [HP2.out, ← hrel2]; rfl
      have E4 := Aside0.mk e4
      clear e4 hrel2 HREL
      have hl0 : Laid4 wr := Laid4.below HL.out HB.out
      have HL0 := Aside0.mk hl0
      clear hl0
      by_cases ho : o = true
      · subst ho
        have E5 := Aside0.mk (show parseT m a1 (some (v, true)) = (0, 4) by simp [parseT])
        go_wp2
        go_ret2
        exact ⟨by rw [E4.out, E5.out]; rfl, HB.out⟩
      · obtain rfl : o = false := by simpa using ho
        by_cases hk : knownB a1 = true
        · have hE : ∃ x, num_Extend.f (if m = true then (0 - v) % 18446744073709551616 else v) a1 = some x := ⟨_, num_Extend_at _ a1 hk⟩
          obtain ⟨x, hE⟩ := hE
          have hT : parseT m a1 (some (v, false)) = if (m = true ∧ v > 2 ^ (a1 - 1).toNat) ∨ (m = false ∧ a1 < 64 ∧ v ≥ 2 * 2 ^ (a1 - 1).toNat) then (0, 4) else (x, 0) := by
            simp only [parseT, hk, hE]; simp
          have HK := Aside0.mk hk
          rcases known_cases hk with rfl | rfl | rfl | rfl
          all_goals (
            have p8 : (2 : Int) ^ ((8 : Int) - 1).toNat = 128 := by decide
            have p16 : (2 : Int) ^ ((16 : Int) - 1).toNat = 32768 := by decide
            have p32 : (2 : Int) ^ ((32 : Int) - 1).toNat = 2147483648 := by decide
            have p64 : (2 : Int) ^ ((64 : Int) - 1).toNat = 9223372036854775808 := by decide
            try rw [p8] at hT
            try rw [p16] at hT
            try rw [p32] at hT
            try rw [p64] at hT
            have HT := Aside0.mk hT
            have HE := Aside0.mk hE
            clear hT hE hk ho p8 p16 p32 p64
            cases m)
          all_goals (
            simp only [if_true, Bool.false_eq_true, if_false] at HE
            go_wp2_with (first
              | (go_at_call 25; refine (num_known.calls _ true _ (by exact congrArg some HK.out) HL0.out).mono ?_; rintro e w2 ⟨rfl, ⟨nd, rfl⟩⟩)
              | (go_at_call 14; refine (num_Extend.calls _ _ x _ (by first | exact HE.out | (rw [← HE.out]; congr 1; simp only [u64_mod]; omega)) (Laid4.below HL.out (pw_below_drewN HB.out _))).mono ?_; rintro e w2 ⟨rfl, ⟨nd2, rfl⟩⟩)))
          all_goals (
            go_ret2
            refine ⟨?_, by repeat (first | exact HB.out | apply pw_below_drewN)⟩
            rw [E4.out, HT.out]
            first
              | (rw [if_pos (by first | (simp; done) | (simp; omega))]; rfl)
              | (rw [if_neg (by first | (simp; done) | (simp; omega))]; rfl))
        · have hk2 : knownB a1 = false := by simpa using hk
          have E5 := Aside0.mk (show parseT m a1 (some (v, false)) = (0, 4) by simp [parseT, hk2])
          clear ho hk
          go_wp2_with (go_at_call 25; refine (num_known.calls a1 false _ (by rw [← hk2]; rfl) HL0.out).mono ?_; rintro e w2 ⟨rfl, ⟨nd, rfl⟩⟩)
          go_ret2
          exact ⟨by rw [E4.out, E5.out]; rfl, pw_below_drewN HB.out _⟩
set_option maxHeartbeats 32000000 in
set_option maxRecDepth 100000 in
theorem num_Parse.walk10 (a0 : ByteArray) (a1 : Int) (l1 l2 : List UInt8) (m : Bool) (w : World) (hL : Laid4 w) (hlen : l2.length ≤ 1099511627776)
    (hp : parseP a0.data.toList a1 = parseB m 10 l2 a1)
    (C1 : Aside0 (∀ w : World, Calls Tryd.prog 23 #[.string a0, .string ⟨#[45]⟩] w fun e w' => e = .returned (.tuple #[.string ⟨l2.toArray⟩, .bool m]) ∧ w' = w))
    (C2 : Aside0 (∀ w : World, Calls Tryd.prog 23 #[.string ⟨l2.toArray⟩, .string ⟨#[48, 120]⟩] w fun e w' => e = .returned (.tuple #[.string ⟨l2.toArray⟩, .bool false]) ∧ w' = w)) :
    Calls Tryd.prog 10 #[.string a0, .int .i64 a1] w fun e w' => e = .returned (.tuple #[.int .i64 (parseP a0.data.toList a1).1, .int .i64 (parseP a0.data.toList a1).2]) ∧ Below w.heap.size w w' := by
  have HL := Aside0.mk hL
  have HP := Aside0.mk hp
  clear hL hp
  by_cases hne : l2 = []
  · have e : parseP a0.data.toList a1 = (0, 3) := by rw [HP.out, parseB, if_pos hne]
    rw [e]
    subst hne
    clear HP
    go_enter Tryd.func10, Tryd.ntmps10
    go_wp2_with (first
      | (go_at_call 23; with_reducible refine (C1.out _).mono ?_; rintro e w' ⟨rfl, rfl⟩)
      | (go_at_call 23; with_reducible refine (C2.out _).mono ?_; rintro e w' ⟨rfl, rfl⟩))
    go_ret2
    exact ⟨rfl, Below.refl _ _⟩
  have hemp : ¬ l2.toArray = #[] := fun h => hne (by simpa using h)
  have hemp2 : l2.isEmpty = false := by
    cases l2 with
    | nil => exact absurd rfl hne
    | cons _ _ => rfl
  obtain ⟨RES, hres⟩ : ∃ RES, readL 10 l2 0 false = RES := ⟨_, rfl⟩
  have HP2 := Aside0.mk (show parseP a0.data.toList a1 = parseT m a1 RES by rw [HP.out, parseB, if_neg hne, hres])
  have HRES := Aside0.mk hres
  clear hres hne HP
  go_enter Tryd.func10, Tryd.ntmps10
  go_wp2_with (first
    | (go_at_call 23; with_reducible refine (C1.out _).mono ?_; rintro e w' ⟨rfl, rfl⟩)
    | (go_at_call 23; with_reducible refine (C2.out _).mono ?_; rintro e w' ⟨rfl, rfl⟩))
  refine (num_reader _ _).mono ?_
  rintro e w1 ⟨rfl, rfl⟩
  clear C1 C2
  go_wp2
  go_loopw [11, 12] (fun v11 v12 wr => ∃ (pos : Nat) (v : Int) (o : Bool), v11 = .int .u64 v ∧ v12 = .bool o ∧ 0 ≤ v ∧ v ≤ 18446744073709551615 ∧ pos ≤ l2.length ∧ Aside0 (readL 10 (l2.drop pos) v o = RES) ∧ Aside0 (wr.heap[w'.heap.size + 1]? = some (.stringIter ⟨l2.toArray⟩ pos)) ∧ Aside0 (wr.cell? ⟨w'.heap.size, 0, none⟩ = some (.int .i64 10)) ∧ Aside0 (Below w'.heap.size w' wr)) (fun _ _ wr => l2.length - wr.iterPos (w'.heap.size + 1))
  case atStart =>
    refine ⟨0, 0, false, rfl, rfl, by omega, by omega, Nat.zero_le _, HRES, ⟨?_⟩, ⟨?_⟩, ⟨(below_alloc (below_alloc (Below.refl _ _) _) _)⟩⟩
    · have := World.iter_heap (w'.alloc (.cells #[.int .i64 10] 3)) ⟨l2.toArray⟩ 0
      simpa using this
    · exact ((Boxed.new w' 3 (.int .i64 10)).alloc _).cell
  case round =>
    obtain ⟨pos, v, o, rfl, rfl, hv0, hv1, hpos, HREL, HIT, HRC, HB⟩ := hrel
    by_cases hlt : pos < l2.length
    · obtain ⟨b, hbe⟩ : ∃ b, b = l2[pos] := ⟨_, rfl⟩
      have hdr : l2.drop pos = b :: l2.drop (pos + 1) := by rw [hbe]; exact List.drop_eq_getElem_cons hlt
      have hrel2 := HREL.out
      rw [hdr] at hrel2
      have hsz : pos < (⟨l2.toArray⟩ : ByteArray).size := by simpa [ByteArray.size] using hlt
      have hbs : (⟨l2.toArray⟩ : ByteArray)[pos]'hsz = b := by rw [hbe]; rfl
      have hb8 := b.toNat_lt
      by_cases hd : digR 10 b.toNat < 0
      · rw [readL_none _ _ _ _ _ hd] at hrel2
        have e3 : parseP a0.data.toList a1 = (0, 3) := by rw [HP2.out, ← hrel2]; rfl
        have E3 := Aside0.mk e3
        clear e3
        obtain ⟨c, hc0, hc1, hcd, p2, hnx⟩ : ∃ c : Int, 0 ≤ c ∧ c ≤ 2147483647 ∧ digR 10 c < 0 ∧ ∃ p2, ∀ ty, (Instr.next (.pointer (some ⟨w'.heap.size + 1, 0, none⟩)) true ty).run Tryd.prog wr = .ok (.tuple #[.bool true, .int .i64 pos, .int .i32 c]) (wr.iterAt (w'.heap.size + 1) ⟨l2.toArray⟩ p2) := by
          by_cases ha : b.toNat < 128
          · refine ⟨b.toNat, by omega, by omega, hd, pos + 1, fun ty => ?_⟩
            have h := Lib.run_next_ascii_at (P := Tryd.prog) wr (w'.heap.size + 1) ⟨l2.toArray⟩ pos ty HIT.out hsz (by rw [hbs]; exact ha)
            rw [hbs] at h
            exact h
          · have hh := decode_high ⟨l2.toArray⟩ pos hsz (by rw [hbs]; omega)
            have hle := decode_le ⟨l2.toArray⟩ pos
            refine ⟨(Utf8.decode ⟨l2.toArray⟩ pos).1, by omega, by omega, by rw [digR_high _ _ (by omega)]; decide, _, fun ty => Lib.run_next_any_at (P := Tryd.prog) wr (w'.heap.size + 1) ⟨l2.toArray⟩ pos ty HIT.out hsz⟩
        have hrc2 := iter_cell (k := w'.heap.size + 1) (s := ⟨l2.toArray⟩) (p := p2) HRC.out (by omega)
        have HB2 := Aside0.mk (Lib.below_iterAt HB.out (k := w'.heap.size + 1) (by omega) ⟨l2.toArray⟩ p2)
        clear hd hrel2 hdr hbs hbe
        go_wp2_with (go_at_call 34; refine (num_digit c 10 w'.heap.size _ hc0 hc1 hrc2).mono ?_; rintro e w2 ⟨rfl, rfl⟩)
        go_ret2
        exact ⟨by rw [E3.out]; rfl, HB2.out⟩
      · rw [readL_some _ _ _ _ _ hd] at hrel2
        have ha : b.toNat < 128 := by
          refine Decidable.byContradiction fun h => hd ?_
          rw [digR_high _ _ (by omega)]; decide
        have hnx : ∀ ty, (Instr.next (.pointer (some ⟨w'.heap.size + 1, 0, none⟩)) true ty).run Tryd.prog wr = .ok (.tuple #[.bool true, .int .i64 pos, .int .i32 b.toNat]) (wr.iterAt (w'.heap.size + 1) ⟨l2.toArray⟩ (pos + 1)) := fun ty => by
          have h := Lib.run_next_ascii_at (P := Tryd.prog) wr (w'.heap.size + 1) ⟨l2.toArray⟩ pos ty HIT.out hsz (by rw [hbs]; exact ha)
          rw [hbs] at h
          exact h
        have hrc2 := iter_cell (k := w'.heap.size + 1) (s := ⟨l2.toArray⟩) (p := pos + 1) HRC.out (by omega)
        have HRC2 := Aside0.mk hrc2
        have HB2 := Aside0.mk (Lib.below_iterAt HB.out (k := w'.heap.size + 1) (by omega) ⟨l2.toArray⟩ (pos + 1))
        have HIT2 := Aside0.mk (Lib.iterAt_heap wr (w'.heap.size + 1) ⟨l2.toArray⟩ pos (pos + 1) HIT.out)
        obtain ⟨c, hce⟩ : ∃ c : Int, c = (b.toNat : Int) := ⟨_, rfl⟩
        rw [← hce] at hrel2 hd hnx
        have hc0 : 0 ≤ c := by omega
        have hc1 : c ≤ 2147483647 := by omega
        obtain ⟨d, hde⟩ : ∃ d, digR 10 c = d := ⟨_, rfl⟩
        have hd0 : 0 ≤ d := by omega
        have hd1 : d < 16 := by rw [← hde]; exact digR_bounds _ _ (by omega)
        rw [hde] at hrel2
        have HREL2 := Aside0.mk hrel2
        have HDIG := Aside0.mk (num_digit c 10 w'.heap.size _ hc0 hc1 hrc2)
        rw [hde] at HDIG
        clear hrel2 hd hdr hbs hbe hde hce hrc2 hc0 hc1 ha hb8
        go_wp2_with (go_at_call 34; refine HDIG.out.mono ?_; rintro e w2 ⟨rfl, rfl⟩)
        all_goals (
          refine ⟨⟨pos + 1, _, _, rfl, rfl, ?_, ?_, by omega, ⟨?_⟩, HIT2, HRC2, HB2⟩, ?_⟩
          · rw [u64_mod]; omega
          · rw [u64_mod]; omega
          · have h_ := HREL2.out
            simp only [u64_mod]
            rw [show ((v * 10 % 18446744073709551616 + d) % 18446744073709551616) = ((v * 10 + d) % 18446744073709551616) by omega]
            simp_all
          · have h1 := HIT2.out
            have h2 := HIT.out
            simp only [World.iterPos, h1, h2]
            omega)
    · obtain rfl : pos = l2.length := by omega
      have hsz : ¬ l2.length < (⟨l2.toArray⟩ : ByteArray).size := by simp [ByteArray.size]
      have hnx : ∀ ty, (Instr.next (.pointer (some ⟨w'.heap.size + 1, 0, none⟩)) true ty).run Tryd.prog wr = .ok (.tuple #[.bool false]) wr := fun ty => Lib.run_next_end_at wr (w'.heap.size + 1) ⟨l2.toArray⟩ l2.length ty HIT.out hsz
      have hrel2 := HREL.out
      rw [List.drop_length] at hrel2
      have e4 : parseP a0.data.toList a1 = parseT m a1 (some (v, o)) := by rw [HP2.out, ← hrel2]; rfl
      have E4 := Aside0.mk e4
      clear e4 hrel2 HREL
      have hl0 : Laid4 wr := Laid4.below HL.out HB.out
      have HL0 := Aside0.mk hl0
      clear hl0
      by_cases ho : o = true
      · subst ho
        have E5 := Aside0.mk (show parseT m a1 (some (v, true)) = (0, 4) by simp [parseT])
        go_wp2
        go_ret2
        exact ⟨by rw [E4.out, E5.out]; rfl, HB.out⟩
      · obtain rfl : o = false := by simpa using ho
        by_cases hk : knownB a1 = true
        · have hE : ∃ x, num_Extend.f (if m = true then (0 - v) % 18446744073709551616 else v) a1 = some x := ⟨_, num_Extend_at _ a1 hk⟩
          obtain ⟨x, hE⟩ := hE
          have hT : parseT m a1 (some (v, false)) = if (m = true ∧ v > 2 ^ (a1 - 1).toNat) ∨ (m = false ∧ a1 < 64 ∧ v ≥ 2 * 2 ^ (a1 - 1).toNat) then (0, 4) else (x, 0) := by
            simp only [parseT, hk, hE]; simp
          have HK := Aside0.mk hk
          rcases known_cases hk with rfl | rfl | rfl | rfl
          all_goals (
            have p8 : (2 : Int) ^ ((8 : Int) - 1).toNat = 128 := by decide
            have p16 : (2 : Int) ^ ((16 : Int) - 1).toNat = 32768 := by decide
            have p32 : (2 : Int) ^ ((32 : Int) - 1).toNat = 2147483648 := by decide
            have p64 : (2 : Int) ^ ((64 : Int) - 1).toNat = 9223372036854775808 := by decide
            try rw [p8] at hT
            try rw [p16] at hT
            try rw [p32] at hT
            try rw [p64] at hT
            have HT := Aside0.mk hT
            have HE := Aside0.mk hE
            clear hT hE hk ho p8 p16 p32 p64
            cases m)
          all_goals (
            simp only [if_true, Bool.false_eq_true, if_false] at HE
            go_wp2_with (first
              | (go_at_call 25; refine (num_known.calls _ true _ (by exact congrArg some HK.out) HL0.out).mono ?_; rintro e w2 ⟨rfl, ⟨nd, rfl⟩⟩)
              | (go_at_call 14; refine (num_Extend.calls _ _ x _ (by first | exact HE.out | (rw [← HE.out]; congr 1; simp only [u64_mod]; omega)) (Laid4.below HL.out (pw_below_drewN HB.out _))).mono ?_; rintro e w2 ⟨rfl, ⟨nd2, rfl⟩⟩)))
          all_goals (
            go_ret2
            refine ⟨?_, by repeat (first | exact HB.out | apply pw_below_drewN)⟩
            rw [E4.out, HT.out]
            first
              | (rw [if_pos (by first | (simp; done) | (simp; omega))]; rfl)
              | (rw [if_neg (by first | (simp; done) | (simp; omega))]; rfl))
        · have hk2 : knownB a1 = false := by simpa using hk
          have E5 := Aside0.mk (show parseT m a1 (some (v, false)) = (0, 4) by simp [parseT, hk2])
          clear ho hk
          go_wp2_with (go_at_call 25; refine (num_known.calls a1 false _ (by rw [← hk2]; rfl) HL0.out).mono ?_; rintro e w2 ⟨rfl, ⟨nd, rfl⟩⟩)
          go_ret2
          exact ⟨by rw [E4.out, E5.out]; rfl, pw_below_drewN HB.out _⟩
theorem trimPrefix_len (l p : List UInt8) : (Lib.trimPrefix l p).length ≤ l.length := by
  unfold Lib.trimPrefix
  split
  · rw [List.length_drop]; omega
  · exact Nat.le_refl _
theorem num_Parse.calls (a0 : ByteArray) (a1 : Int) (r1 r2 : Int) (w : World) (h : num_Parse.f a0 a1 = some (r1, r2)) (hL : Laid4 w) :
    Calls Tryd.prog 10 #[.string a0, .int .i64 a1] w fun e w' => e = .returned (.tuple #[.int .i64 r1, .int .i64 r2]) ∧ Below w.heap.size w w' := by
  unfold num_Parse.f at h
  split at h
  rotate_left
  · cases h
  rename_i hs
  have hr : parseP a0.data.toList a1 = (r1, r2) := Option.some.inj h
  have e : ∀ e w', (e = Ending.returned (.tuple #[.int .i64 (parseP a0.data.toList a1).1, .int .i64 (parseP a0.data.toList a1).2]) ∧ Below w.heap.size w w') → (e = .returned (.tuple #[.int .i64 r1, .int .i64 r2]) ∧ Below w.heap.size w w') := fun e w' hh => by rw [hr] at hh; exact hh
  have hlen : a0.data.toList.length ≤ 1099511627776 := by rw [data_length]; exact hs
  have C1 : ∀ w : World, Calls Tryd.prog 23 #[.string a0, .string ⟨#[45]⟩] w fun e w' => e = .returned (.tuple #[.string ⟨(Lib.trimPrefix a0.data.toList [45]).toArray⟩, .bool (Lib.hasPrefix a0.data.toList [45])]) ∧ w' = w := fun w => Tryd.strings_CutPrefix a0 ⟨#[45]⟩ w
  have C2 : ∀ w : World, Calls Tryd.prog 23 #[.string ⟨(Lib.trimPrefix a0.data.toList [45]).toArray⟩, .string ⟨#[48, 120]⟩] w fun e w' => e = .returned (.tuple #[.string ⟨(Lib.trimPrefix (Lib.trimPrefix a0.data.toList [45]) [48, 120]).toArray⟩, .bool (Lib.hasPrefix (Lib.trimPrefix a0.data.toList [45]) [48, 120])]) ∧ w' = w := fun w => Tryd.strings_CutPrefix ⟨(Lib.trimPrefix a0.data.toList [45]).toArray⟩ ⟨#[48, 120]⟩ w
  have hl1 := trimPrefix_len a0.data.toList [45]
  by_cases hx : Lib.hasPrefix (Lib.trimPrefix a0.data.toList [45]) [48, 120] = true
  · have hp : parseP a0.data.toList a1 = parseB (Lib.hasPrefix a0.data.toList [45]) 16 (Lib.trimPrefix (Lib.trimPrefix a0.data.toList [45]) [48, 120]) a1 := by unfold parseP; rw [if_pos hx]
    have hl2 := trimPrefix_len (Lib.trimPrefix a0.data.toList [45]) [48, 120]
    rw [hx] at C2
    exact (num_Parse.walk16 a0 a1 _ _ _ w hL (by omega) hp ⟨C1⟩ ⟨C2⟩).mono e
  · have hx' : Lib.hasPrefix (Lib.trimPrefix a0.data.toList [45]) [48, 120] = false := by simpa using hx
    have hp : parseP a0.data.toList a1 = parseB (Lib.hasPrefix a0.data.toList [45]) 10 (Lib.trimPrefix a0.data.toList [45]) a1 := by unfold parseP; rw [if_neg hx]
    have ht : Lib.trimPrefix (Lib.trimPrefix a0.data.toList [45]) [48, 120] = Lib.trimPrefix a0.data.toList [45] := by rw [Lib.trimPrefix, if_neg hx]
    rw [hx', ht] at C2
    exact (num_Parse.walk10 a0 a1 [] (Lib.trimPrefix a0.data.toList [45]) _ w hL (by omega) hp ⟨C1⟩ ⟨C2⟩).mono e

end Go.Proofs.YthahmmmkojeddaaDoor.PAll
