-- By a program of this session (xp.py) over the kit's print, with texts of this session.
import Derived.Test.YtnpjfkleoijbiaaPAllx0
import Derived.Test.YtnpjfkleoijbiaaPAllx3
import Derived.Test.YtnpjfkleoijbiaaPAllx5
import Derived.Test.YtnpjfkleoijbiaaPAllx6
import Derived.Laws.EntriesVeiled
import Derived.WalkSpells
import Derived.StillTailTactics
import Derived.Test.YtnpjfkleoijbiaaBoxPure
namespace Go.Proofs.Ytnpjfkleoijbiaa.PAll
open Go.RowKit Go.Proofs.YtnpjfkleoijbiaaW.PrintWords Go.Proofs.YtnpjfkleoijbiaaW.PrintLast Go.Proofs.YtnpjfkleoijbiaaW.PrintMore
attribute [local go_sem] max2_int min2_int max_two min_two max_three min_three max_four min_four   -- for this text's walks alone
set_option linter.unusedVariables false
set_option linter.unusedSimpArgs false

-- EXTERN
-- XIMPORT Derived.Laws.EntriesVeiled Derived.WalkSpells Derived.StillTailTactics Derived.Test.YtnpjfkleoijbiaaBoxPure
/-! ### box.Read and its closures: functions 19, 30, 31 -/
def inR (l : List Int) (f n : Nat) : Bool := decide (f + n ≤ l.length)
def partL (l : List Int) (f n : Nat) : List Int := if inR l f n then (l.take (f + n)).drop f else []
/-- What the closures of Read hold: the bytes, the flag. -/
structure Caps (w : World) (gb gk : Nat) (A : Option Addr) (c : Nat) (l : List Int) (ok : Bool) : Prop where
  hb : w.heap[gb]? = some (.cells #[.slice A l.length c] 25 (0, 0))
  hk : w.heap[gk]? = some (.cells #[.bool ok] 4 (0, 0))
  hl : l.length ≤ c
  hc : Kd.C (Kd.int .u8) w A l.length l
  hm : l.length ≤ 1048576
def PartPost (w : World) (gb gk : Nat) (A : Option Addr) (c : Nat) (l : List Int) (ok : Bool) (f n : Nat) (e : Ending) (w' : World) : Prop :=
  ∃ A' c', e = .returned (.slice A' (partL l f n).length c') ∧ (partL l f n).length ≤ c' ∧ Kd.C (Kd.int .u8) w' A' (partL l f n).length (partL l f n) ∧ Caps w' gb gk A c l (ok && inR l f n) ∧ w.grownBy w' (some gk)
/-- A row of bytes lies in no block of a flag. -/
theorem C_over {w w' : World} {A : Option Addr} {n gk : Nat} {xs : List Int} {ok : Bool} (h : Kd.C (Kd.int .u8) w A n xs) (hk : w.heap[gk]? = some (.cells #[.bool ok] 4 (0, 0))) (hg : w.grownBy w' (some gk)) : Kd.C (Kd.int .u8) w' A n xs := by
  have hr := Kd.reads_of_C (enc := Value.int .u8) (d := (0 : Int)) (h1 := fun _ => rfl) h
  refine Kd.C_of_reads (d := (0 : Int)) ⟨hr.1, hr.2.1, fun hn => ?_⟩
  obtain ⟨ad, e, hc⟩ := hr.2.2 hn
  refine ⟨ad, e, fun j hj => ?_⟩
  have h1 := hc j hj
  refine hg.cell h1 ?_
  intro e2
  have e3 : (ad.add j).block = gk := by simpa using e2
  rw [World.cell?, e3, hk] at h1
  simp only at h1
  split at h1
  · cases h1
  · cases ho : (ad.add j).off with
    | zero => rw [ho] at h1; simp at h1
    | succ q => rw [ho] at h1; simp at h1
theorem Caps.over {w w' : World} {gb gk : Nat} {A : Option Addr} {c : Nat} {l : List Int} {ok ok' : Bool} (h : Caps w gb gk A c l ok) (hg : w.grownBy w' (some gk)) (hk : w'.heap[gk]? = some (.cells #[.bool ok'] 4 (0, 0))) : Caps w' gb gk A c l ok' :=
  ⟨blk_grown h.hb hg (fun e => by cases e; have h1 := h.hb; rw [h.hk] at h1; cases h1), hk, h.hl, C_over h.hc h.hk hg, h.hm⟩
set_option maxHeartbeats 2000000 in
theorem part_in (gb gk : Nat) (A : Option Addr) (c : Nat) (l : List Int) (ok : Bool) (f n : Nat) (w : World) (h : Caps w gb gk A c l ok) (hin : f + n ≤ l.length) :
    Calls Try.prog 30 #[.int .i64 f, .int .i64 n, .pointer (some ⟨gb, 0, none⟩), .pointer (some ⟨gk, 0, none⟩)] w (PartPost w gb gk A c l ok f n) := by
  have H := Aside0.mk h
  have hb : w.cell? ⟨gb, 0, none⟩ = some (.slice A l.length c) := (blk_cell h.hb 0).trans rfl
  have hm := h.hm
  obtain ⟨i0, hi, hzz⟩ := Option.map_eq_some_iff.1 info5
  simp only [Prod.mk.injEq] at hzz
  obtain ⟨A', hA1, hA2, hA3⟩ := print_mid_int (P := Try.prog) (k := .u8) 25 5 Try.underlying25 hi hzz.2.1 A c l (f : Int) ((f : Int) + n) (by omega) (by omega) (by omega) h.hl
  have HA2 := Aside0.mk hA2
  have HA3 := Aside0.mk hA3
  clear h hi hzz hA2 hA3
  go_enter Try.func30, Try.ntmps30
  go_wp2
  go_ret
  have e1 : partL l f n = (l.take ((f : Int) + n).toNat).drop (f : Int).toNat := by
    rw [partL, inR, if_pos (by simpa using hin)]; congr 2 <;> omega
  have e2 : (partL l f n).length = min (f + n) l.length - f := by rw [e1, List.length_drop, List.length_take]; omega
  refine ⟨A', c - f, by rw [e2]; rfl, by rw [e1]; exact HA3.out, by rw [e1]; exact Kd.C_of_reads (d := (0 : Int)) (HA2.out w (Kd.reads_of_C (enc := Value.int .u8) (d := (0 : Int)) (h1 := fun _ => rfl) H.out.hc)), ?_, World.grownBy.refl w _⟩
  rw [inR, decide_eq_true hin, Bool.and_true]
  exact H.out
set_option maxHeartbeats 2000000 in
theorem part_out (gb gk : Nat) (A : Option Addr) (c : Nat) (l : List Int) (ok : Bool) (f n : Nat) (w : World) (h : Caps w gb gk A c l ok) (hf : f ≤ 1099511627776) (hn : n ≤ 1099511627776) (hin : ¬ f + n ≤ l.length) :
    Calls Try.prog 30 #[.int .i64 f, .int .i64 n, .pointer (some ⟨gb, 0, none⟩), .pointer (some ⟨gk, 0, none⟩)] w (PartPost w gb gk A c l ok f n) := by
  have H := Aside0.mk h
  have hb : w.cell? ⟨gb, 0, none⟩ = some (.slice A l.length c) := (blk_cell h.hb 0).trans rfl
  have hk0 : w.cell? ⟨gk, 0, none⟩ = some (.bool ok) := (blk_cell h.hk 0).trans rfl
  have hk1 := blk_frozen h.hk 0
  have hm := h.hm
  have e1 : Aside0 (partL l f n = []) := ⟨by rw [partL, inR, if_neg (by simpa using hin)]⟩
  have fin : PartPost w gb gk A c l ok f n (.returned (.slice none 0 0)) (w.setCell ⟨gk, 0, none⟩ (.bool false)) := by
    have hg : w.grownBy (w.setCell ⟨gk, 0, none⟩ (.bool false)) (some gk) := ⟨rfl, rfl, rfl, by simp [World.setCell], fun k _ hne => Below.heap_setCell _ _ _ _ (by simpa using hne)⟩
    refine ⟨none, 0, by rw [e1.out]; rfl, by rw [e1.out]; exact Nat.le_refl _, by rw [e1.out]; exact Kd.C_nil _ _, ?_, hg⟩
    rw [inR, decide_eq_false hin, Bool.and_false]
    exact H.out.over hg ((blk_set H.out.hk 0 _).trans rfl)
  have FIN := Aside0.mk fin
  clear h fin
  by_cases h1 : l.length < f
  · go_enter Try.func30, Try.ntmps30
    go_wp2
    go_ret
    exact FIN.out
  · go_enter Try.func30, Try.ntmps30
    go_wp2
    go_ret
    exact FIN.out
theorem part_any (gb gk : Nat) (A : Option Addr) (c : Nat) (l : List Int) (ok : Bool) (f n : Nat) (w : World) (h : Caps w gb gk A c l ok) (hf : f ≤ 1099511627776) (hn : n ≤ 1099511627776) :
    Calls Try.prog 30 #[.int .i64 f, .int .i64 n, .pointer (some ⟨gb, 0, none⟩), .pointer (some ⟨gk, 0, none⟩)] w (PartPost w gb gk A c l ok f n) := by
  by_cases hin : f + n ≤ l.length
  · exact part_in gb gk A c l ok f n w h hin
  · exact part_out gb gk A c l ok f n w h hf hn hin

/-- The number of little-endian bytes. -/
def leV : List Int → Int
  | [] => 0
  | b :: r => b + 256 * leV r
def numL (l : List Int) (f n : Nat) : Int := leV (partL l f n)
def Bytes (l : List Int) : Prop := ∀ x ∈ l, 0 ≤ x ∧ x < 256
theorem or_low (j x y : Nat) (hx : x < 2 ^ j) (hy : y % 2 ^ j = 0) (h1 : x < 2 ^ 62) (h2 : y < 2 ^ 62) : Go.bits .or .i64 (x : Int) (y : Int) = (x : Int) + y := by
  have hk : ∀ n : Int, 0 ≤ n → n < 2 ^ 62 → IntKind.i64.wrap n = n := fun n h0 h1 => by rw [IntKind.wrap_i64]; omega
  rw [(bits_nat .i64 62 (by decide) hk x y h1 h2).2]
  have hq : y = 2 ^ j * (y / 2 ^ j) := by
    have := Nat.div_add_mod y (2 ^ j)
    omega
  rw [Nat.or_comm, hq, ← Nat.two_pow_add_eq_or_of_lt hx (y / 2 ^ j)]
  push_cast
  omega
theorem partL_bytes {l : List Int} (h : Bytes l) (f n : Nat) : Bytes (partL l f n) := by
  intro x hx
  unfold partL at hx
  split at hx
  · exact h x (List.mem_of_mem_take (List.mem_of_mem_drop hx))
  · cases hx
theorem partL_le (l : List Int) (f n : Nat) : (partL l f n).length ≤ n := by
  unfold partL
  split
  · rw [List.length_drop, List.length_take]; omega
  · simp
theorem leV_snoc (l : List Int) (b : Int) : leV (l ++ [b]) = leV l + 256 ^ l.length * b := by
  induction l with
  | nil => simp [leV]
  | cons c r ih => simp only [List.cons_append, leV, ih, List.length_cons]; rw [Int.pow_succ, Int.mul_add, Int.add_assoc, ← Int.mul_assoc, Int.mul_comm 256 (256 ^ r.length)]
theorem leV_bound (l : List Int) (h : Bytes l) : 0 ≤ leV l ∧ leV l < 256 ^ l.length := by
  induction l with
  | nil => simp [leV]
  | cons c r ih =>
    obtain ⟨h1, h2⟩ := ih (fun x hx => h x (by simp [hx]))
    obtain ⟨h3, h4⟩ := h c (by simp)
    simp only [leV, List.length_cons]
    rw [Int.pow_succ]
    omega
theorem pow_le8 (i : Nat) (hi : i ≤ 3) : (2 : Int) ^ (8 * i) ≤ 16777216 ∧ 0 < (2 : Int) ^ (8 * i) := by
  have : i = 0 ∨ i = 1 ∨ i = 2 ∨ i = 3 := by omega
  rcases this with rfl | rfl | rfl | rfl <;> decide
theorem shl_bound (b : Int) (i : Nat) (h1 : 0 ≤ b) (h2 : b < 256) (hi : i ≤ 3) : 0 ≤ b * 2 ^ (8 * i) ∧ b * 2 ^ (8 * i) < 4294967296 := by
  have : i = 0 ∨ i = 1 ∨ i = 2 ∨ i = 3 := by omega
  rcases this with rfl | rfl | rfl | rfl <;> simp <;> omega
theorem or_step (x b : Int) (i : Nat) (h1 : 0 ≤ x) (h2 : x < 2 ^ (8 * i)) (h3 : 0 ≤ b) (h4 : b < 256) (hi : i ≤ 3) : Go.bits .or .i64 x (b * 2 ^ (8 * i)) = x + b * 2 ^ (8 * i) := by
  obtain ⟨X, rfl⟩ := Int.eq_ofNat_of_zero_le h1
  obtain ⟨B, rfl⟩ := Int.eq_ofNat_of_zero_le h3
  have hp := pow_le8 i hi
  have hs := shl_bound B i h3 h4 hi
  have h5 : X < 2 ^ (8 * i) := by exact_mod_cast h2
  have h := or_low (8 * i) X (B * 2 ^ (8 * i)) h5 (by simp) (by omega) (by
    have : ((B * 2 ^ (8 * i) : Nat) : Int) < 4294967296 := by push_cast; exact hs.2
    omega)
  push_cast at h
  exact h
def NumPost (w : World) (gb gk gp : Nat) (A : Option Addr) (c : Nat) (l : List Int) (ok : Bool) (f n : Nat) (e : Ending) (w' : World) : Prop :=
  e = .returned (.int .i64 (numL l f n)) ∧ Caps w' gb gk A c l (ok && inR l f n) ∧ w.grownBy w' (some gk)
set_option maxHeartbeats 4000000 in
theorem number_any (gb gk gp : Nat) (A : Option Addr) (c : Nat) (l : List Int) (ok : Bool) (f n : Nat) (w : World) (h : Caps w gb gk A c l ok) (hp : w.heap[gp]? = some (.cells #[.func (.func 30) #[] #[.pointer (some ⟨gb, 0, none⟩), .pointer (some ⟨gk, 0, none⟩)]] 55 (0, 0))) (hf : f ≤ 1099511627776) (hn : n ≤ 4) (hw : Bytes l) :
    Calls Try.prog 31 #[.int .i64 f, .int .i64 n, .pointer (some ⟨gp, 0, none⟩)] w (NumPost w gb gk gp A c l ok f n) := by
  have H := Aside0.mk h
  have HW := Aside0.mk hw
  have hp0 : w.cell? ⟨gp, 0, none⟩ = some (.func (.func 30) #[] #[.pointer (some ⟨gb, 0, none⟩), .pointer (some ⟨gk, 0, none⟩)]) := (blk_cell hp 0).trans rfl
  clear h hw hp
  go_enter Try.func31, Try.ntmps31
  go_wp2_with (go_at_call 30; refine (part_any gb gk A c l ok f n _ H.out hf (by omega)).mono ?_; rintro e w1 ⟨A', c', rfl, hlc, hC, hCaps, hgr⟩; have HLC := Aside0.mk hlc; have HC := Aside0.mk hC; have HCA := Aside0.mk hCaps; have HGR := Aside0.mk hgr; clear hlc hC hCaps hgr)
  have hbs := partL_bytes HW.out f n
  have hbl := partL_le l f n
  have HFIN := Aside0.mk (show numL l f n = leV (partL l f n) from rfl)
  generalize partL l f n = bs at *
  have HBS := Aside0.mk hbs
  clear hbs
  have hbl4 : bs.length ≤ 4 := by omega
  go_loop [6, 14] (fun v6 v14 => ∃ (i : Nat) (x : Int), i ≤ bs.length ∧ v14 = .int .i64 i ∧ v6 = .int .i64 x ∧ Aside0 (x = leV (bs.take i))) (fun _ v14 => bs.length - (intOf v14).toNat)
  case atStart => exact ⟨0, 0, Nat.zero_le _, rfl, rfl, ⟨rfl⟩⟩
  case round =>
    obtain ⟨i, x, hi, rfl, rfl, HX⟩ := hrel
    by_cases hlt : i < bs.length
    · obtain ⟨ad, eA, hcell⟩ := Kd.at_int HC.out (i : Int) (by omega) (by omega)
      cases eA
      rw [Int.toNat_natCast] at hcell
      have hrd : rd bs (i : Int) = bs[i] := by simp [rd, List.getD_eq_getElem?_getD, List.getElem?_eq_getElem hlt]
      obtain ⟨b, hb⟩ : ∃ b, b = bs[i] := ⟨_, rfl⟩
      have hb0 := HBS.out _ (List.getElem_mem hlt)
      rw [hrd, ← hb] at hcell
      rw [← hb] at hb0
      have HN := Aside0.mk (leV_snoc (bs.take i) bs[i])
      have hv := leV_bound (bs.take i) (fun x hx => HBS.out x (List.mem_of_mem_take hx))
      have hlen : (bs.take i).length = i := List.length_take_of_le (by omega)
      rw [hlen] at hv HN
      rw [List.take_append_getElem hlt, ← hb, ← HX.out] at HN
      rw [← HX.out] at hv
      obtain ⟨hb1, hb2⟩ := hb0
      obtain ⟨hx1, hx2⟩ := hv
      have h256 : ((256 : Int) ^ i) = 2 ^ (8 * i) := by rw [Int.pow_mul]; rfl
      rw [h256] at hx2 HN
      have hor := or_step x b i hx1 hx2 hb1 hb2 (by omega)
      have hs1 := shl_bound b i hb1 hb2 (by omega)
      obtain ⟨hs1, hs2⟩ := hs1
      clear hrd hlen hb h256 hx2
      go_wp2
      go_round
      case rel => exact ⟨i + 1, x + b * 2 ^ (8 * i), by omega, by go_num, rfl, ⟨by rw [HN.out, Int.mul_comm b]⟩⟩
      case measure => simp [intOf]; omega
    · have hil : i = bs.length := by omega
      subst hil
      rw [List.take_length] at HX
      go_wp2
      go_ret
      exact ⟨by rw [HFIN.out, ← HX.out]; rfl, HCA.out, HGR.out⟩
def cntF (l : List Int) : Nat := (mn (numL l 6 2) 16).toNat
def rowF (l : List Int) (i : Nat) : S50 := ⟨numL l (16 + 12 * i) 4, partL l (numL l (16 + 12 * i + 4) 4).toNat (numL l (16 + 12 * i + 8) 4).toNat⟩
def rowOk (l : List Int) (i : Nat) : Bool := inR l (16 + 12 * i + 4) 4 && inR l (16 + 12 * i + 8) 4 && inR l (numL l (16 + 12 * i + 4) 4).toNat (numL l (16 + 12 * i + 8) 4).toNat && inR l (16 + 12 * i) 4
def okF (l : List Int) : Nat → Bool
  | 0 => inR l 6 2
  | i + 1 => okF l i && rowOk l i
def outF (l : List Int) (i : Nat) : List S50 := (List.range i).map (rowF l)
theorem outF_succ (l : List Int) (i : Nat) : outF l (i + 1) = outF l i ++ [rowF l i] := by simp [outF, List.range_succ]
theorem numL_bound {l : List Int} (h : Bytes l) (f n : Nat) : 0 ≤ numL l f n ∧ numL l f n < 256 ^ n := by
  obtain ⟨h1, h2⟩ := leV_bound _ (partL_bytes h f n)
  refine ⟨h1, Int.lt_of_lt_of_le h2 ?_⟩
  have h3 := Nat.pow_le_pow_right (n := 256) (by decide) (partL_le l f n)
  have h4 : ((256 ^ (partL l f n).length : Nat) : Int) ≤ ((256 ^ n : Nat) : Int) := Int.ofNat_le.2 h3
  simpa using h4
def readOk' (l : List Int) (i : Nat) : Prop := okF l i = true ∧ wcheck (outF l i) = 0 ∧ wbytes (outF l i) = l
def readOk (l : List Int) : Prop := okF l (cntF l) = true ∧ wcheck (outF l (cntF l)) = 0 ∧ wbytes (outF l (cntF l)) = l
instance (l : List Int) : Decidable (readOk l) := by unfold readOk; infer_instance
def readRes (l : List Int) : List S50 × Int := if readOk l then (outF l (cntF l), 0) else ([], 19)
def ReadPost (w : World) (l : List Int) (e : Ending) (w' : World) : Prop :=
  ∃ v0_ : Value, e = .returned (.tuple #[v0_, .int .i64 (readRes l).2]) ∧ Kd.V k50 50 w' w.heap.size (fun k_ => (w.heap.size ≤ k_)) v0_ (readRes l).1 ∧ Below w.heap.size w w'
theorem ReadPost.no {w w' : World} {l : List Int} {i : Nat} (hb : Below w.heap.size w w') (hi : i = cntF l) (h' : ¬ readOk' l i) : ReadPost w l (.returned (.tuple #[.slice none 0 0, .int .i64 19])) w' := by
  subst hi
  have h : ¬ readOk l := h'
  refine ⟨.slice none 0 0, ?_, ?_, hb⟩
  · rw [readRes, if_neg h]
  · rw [readRes, if_neg h]; exact Kd.V_nil _ _ _ _ _
theorem ReadPost.yes {w w' : World} {l : List Int} {v : Value} {i : Nat} (hR : Kd.R k50 50 w' w.heap.size (fun _ => True) v (outF l i)) (hb : Below w.heap.size w w') (hi : i = cntF l) (h' : readOk' l i) : ReadPost w l (.returned (.tuple #[v, .int .i64 0])) w' := by
  subst hi
  have h : readOk l := h'
  refine ⟨v, ?_, ?_, hb⟩
  · rw [readRes, if_pos h]
  · rw [readRes, if_pos h]; exact Kd.R_V (Kd.R_mono (Kd.R_bound hR) (fun k hk => hk.2.1))
instance (l : List Int) : Decidable (Bytes l) := by unfold Bytes; infer_instance
def box_Read.f (l0 : List Int) : Option (List S50 × Int) :=
  if l0.length ≤ 1048576 ∧ Bytes l0 then some (readRes l0) else none
structure RdI (w wr : World) (A : Option Addr) (c : Nat) (l : List Int) (ok : Bool) : Prop where
  caps : Caps wr w.heap.size (w.heap.size + 1) A c l ok
  hp : wr.heap[w.heap.size + 1 + 1]? = some (.cells #[.func (.func 30) #[] #[.pointer (some ⟨w.heap.size, 0, none⟩), .pointer (some ⟨w.heap.size + 1, 0, none⟩)]] 55 (0, 0))
  bel : Below w.heap.size w wr
theorem RdI.over {w w1 w2 : World} {A : Option Addr} {c : Nat} {l : List Int} {ok ok' : Bool} (h : RdI w w1 A c l ok) (hg : w1.grownBy w2 (some (w.heap.size + 1))) (hc : Caps w2 w.heap.size (w.heap.size + 1) A c l ok') : RdI w w2 A c l ok' :=
  ⟨hc, blk_grown h.hp hg (fun e => by have e2 := Option.some.inj e; omega), h.bel.grown hg h.bel.size (fun _ e_ => by cases e_; omega)⟩
theorem RdI.below {w w1 w2 : World} {A : Option Addr} {c : Nat} {l : List Int} {ok : Bool} (h : RdI w w1 A c l ok) (hb : Below w1.heap.size w1 w2) : RdI w w2 A c l ok :=
  ⟨⟨(hb.block _ (blk_lt h.caps.hb)).trans h.caps.hb, (hb.block _ (blk_lt h.caps.hk)).trans h.caps.hk, h.caps.hl, Kd.C_below h.caps.hc hb, h.caps.hm⟩, (hb.block _ (blk_lt h.hp)).trans h.hp, below_step h.bel hb⟩
def RNumPost (w w1 : World) (A : Option Addr) (c : Nat) (l : List Int) (ok : Bool) (f n : Nat) (e : Ending) (w2 : World) : Prop :=
  e = .returned (.int .i64 (numL l f n)) ∧ RdI w w2 A c l (ok && inR l f n) ∧ w1.grownBy w2 (some (w.heap.size + 1))
theorem rnum (w w1 : World) (A : Option Addr) (c : Nat) (l : List Int) (ok : Bool) (f n : Nat) (h : RdI w w1 A c l ok) (hf : f ≤ 1099511627776) (hn : n ≤ 4) (hw : Bytes l) :
    Calls Try.prog 31 #[.int .i64 f, .int .i64 n, .pointer (some ⟨w.heap.size + 1 + 1, 0, none⟩)] w1 (RNumPost w w1 A c l ok f n) := by
  refine (number_any w.heap.size (w.heap.size + 1) (w.heap.size + 1 + 1) A c l ok f n w1 h.caps h.hp hf hn hw).mono ?_
  rintro e w2 ⟨rfl, hc, hg⟩
  exact ⟨rfl, h.over hg hc, hg⟩
theorem rnumI (w w1 : World) (A : Option Addr) (c : Nat) (l : List Int) (ok : Bool) (x y : Int) (f n : Nat) (hx : x = f) (hy : y = n) (h : RdI w w1 A c l ok) (hf : f ≤ 1099511627776) (hn : n ≤ 4) (hw : Bytes l) :
    Calls Try.prog 31 #[.int .i64 x, .int .i64 y, .pointer (some ⟨w.heap.size + 1 + 1, 0, none⟩)] w1 (RNumPost w w1 A c l ok f n) := by subst hx; subst hy; exact rnum w w1 A c l ok f n h hf hn hw
def RPartPost (w w1 : World) (A : Option Addr) (c : Nat) (l : List Int) (ok : Bool) (f n : Nat) (e : Ending) (w2 : World) : Prop :=
  ∃ A' c', e = .returned (.slice A' (partL l f n).length c') ∧ (partL l f n).length ≤ c' ∧ Kd.C (Kd.int .u8) w2 A' (partL l f n).length (partL l f n) ∧ RdI w w2 A c l (ok && inR l f n) ∧ w1.grownBy w2 (some (w.heap.size + 1))
theorem rpartI (w w1 : World) (A : Option Addr) (c : Nat) (l : List Int) (ok : Bool) (x y : Int) (hx : 0 ≤ x) (hy : 0 ≤ y) (h : RdI w w1 A c l ok) (hf : x < 4294967296) (hn : y < 4294967296) :
    Calls Try.prog 30 #[.int .i64 x, .int .i64 y, .pointer (some ⟨w.heap.size, 0, none⟩), .pointer (some ⟨w.heap.size + 1, 0, none⟩)] w1 (RPartPost w w1 A c l ok x.toNat y.toNat) := by
  obtain ⟨f, rfl⟩ := Int.eq_ofNat_of_zero_le hx
  obtain ⟨n, rfl⟩ := Int.eq_ofNat_of_zero_le hy
  refine (part_any w.heap.size (w.heap.size + 1) A c l ok f n w1 h.caps (by omega) (by omega)).mono ?_
  rintro e w2 ⟨A', c', rfl, h1, h2, h3, hg⟩
  exact ⟨A', c', rfl, h1, h2, h.over hg h3, hg⟩
theorem R50_over {w w1 w2 : World} {A : Option Addr} {c : Nat} {l : List Int} {ok : Bool} {v : Value} {xs : List S50} (h : Kd.R k50 50 w1 w.heap.size (fun _ => True) v xs) (hI : RdI w w1 A c l ok) (hg : w1.grownBy w2 (some (w.heap.size + 1))) : Kd.R k50 50 w2 w.heap.size (fun _ => True) v xs :=
  Kd.R_mono (Kd.R_grown (Kd.R_types h hI.caps.hk (by intro q hq; simp [k50, Kd.iso, Kd.pair, Kd.slice, Kd.int, Kd.scalar] at hq; rcases hq with rfl | rfl <;> decide)) hg (fun k hk e => hk.2 (Option.some.inj e))) (fun _ _ => trivial)
theorem RdI.grown {w w1 w2 : World} {A : Option Addr} {c : Nat} {l : List Int} {ok : Bool} {v : Value} {xs : List S50} (h : RdI w w1 A c l ok) (hR : Kd.R k50 50 w1 w.heap.size (fun _ => True) v xs) (hg : w1.grownBy w2 v.ownBlock) (hb : Below w.heap.size w w2) (hr0 : Kd.C (Kd.int .u8) w A l.length l) : RdI w w2 A c l ok :=
  ⟨⟨blk_grown h.caps.hb hg (Kd.R_ne hR h.caps.hb (by decide)), blk_grown h.caps.hk hg (Kd.R_ne hR h.caps.hk (by decide)), h.caps.hl, Kd.C_below hr0 hb, h.caps.hm⟩, blk_grown h.hp hg (Kd.R_ne hR h.hp (by decide)), hb⟩
theorem partL_len (l : List Int) (f n : Nat) : (partL l f n).length ≤ l.length := by
  unfold partL
  split
  · rw [List.length_drop, List.length_take]; omega
  · simp
theorem outF_length (l : List Int) (i : Nat) : (outF l i).length = i := by simp [outF]
theorem okF_succ (l : List Int) (i : Nat) : okF l (i + 1) = (((okF l i && inR l (16 + 12 * i + 4) 4 && inR l (16 + 12 * i + 8) 4) && inR l (numL l (16 + 12 * i + 4) 4).toNat (numL l (16 + 12 * i + 8) 4).toNat) && inR l (16 + 12 * i) 4) := by
  simp only [okF, rowOk, Bool.and_assoc]
theorem info50_ : (Try.prog.info? 50).map (fun i => (i.zero, i.size, i.bytes)) = some (some (.agg #[(.int .i64 0), (.slice none 0 0)]), 2, 32) := by kernel_rfl
theorem wsize16 (l : List S50) (hs : Sane l) (hz : wcheck l = 0) : (wbytes l).length ≤ 1099511627776 := by
  have := wcheck_le l hz
  rw [wbytes_length]; omega
theorem equal_l0 (a b : List Int) (hl : a.length = b.length) (hm : a.length ≤ 1099511627776) (t : List Int) : ∀ (i k : Nat), a.drop i = t → t.length < k → i ≤ a.length →
    slices_Equal_byte_byte.l0 k a b (a.length : Int) (i : Int) = some (decide (t = b.drop i)) := by
  induction t with
  | nil =>
    intro i k ht hk hi
    obtain ⟨k, rfl⟩ : ∃ m, k = m + 1 := ⟨k - 1, by omega⟩
    have : a.length ≤ i := List.drop_eq_nil_iff.mp ht
    simp only [slices_Equal_byte_byte.l0]; rw [if_neg (by omega)]
    rw [List.drop_eq_nil_of_le (by omega : b.length ≤ i)]; simp
  | cons s r ih =>
    intro i k ht hk hi
    obtain ⟨k, rfl⟩ : ∃ m, k = m + 1 := ⟨k - 1, by omega⟩
    obtain ⟨hd, hlt, hla⟩ := drop_next ht
    simp only [List.length_cons] at hk
    have ha : rd a (i : Int) = s := by
      have : a[i]? = some s := by rw [← List.head?_drop, ht]; rfl
      simp [rd, List.getD_eq_getElem?_getD, this]
    have hb : b.drop i = rd b (i : Int) :: b.drop (i + 1) := by
      have : rd b (i : Int) = b[i]'(by omega) := by simp [rd, List.getD_eq_getElem?_getD, List.getElem?_eq_getElem (by omega : i < b.length)]
      rw [this]; exact List.drop_eq_getElem_cons (by omega)
    simp only [slices_Equal_byte_byte.l0]; rw [if_pos (by omega), if_pos (by omega), if_pos (by omega), if_pos (by omega), ha, hb]
    by_cases e : s = rd b (i : Int)
    · rw [if_pos e, w64 _ (by omega) (by omega), show (i : Int) + 1 = ((i + 1 : Nat) : Int) by omega, ih (i + 1) k hd (by omega) (by omega)]
      simp [e]
    · rw [if_neg e]; simp [e]
theorem equal_f (a b : List Int) (hm : a.length ≤ 1099511627776) (k : Nat) (hk : a.length < k) : slices_Equal_byte_byte.f k a b = some (decide (a = b)) := by
  unfold slices_Equal_byte_byte.f
  by_cases h : a.length = b.length
  · rw [if_pos (by omega)]
    have := equal_l0 a b h hm a 0 k rfl hk (Nat.zero_le _)
    simpa using this
  · rw [if_neg (by omega)]
    rw [decide_eq_false (fun e => h (by rw [e]))]
theorem rstart (w : World) (A0 : Option Addr) (c0 : Nat) (l0 : List Int) (hr0 : Kd.C (Kd.int .u8) w A0 l0.length l0) (hc0 : l0.length ≤ c0) (hm : l0.length ≤ 1048576) :
    RdI w (((w.alloc (.cells #[.slice A0 l0.length c0] 25)).alloc (.cells #[.bool true] 4)).alloc (.cells #[.func (.func 30) #[] #[.pointer (some ⟨w.heap.size, 0, none⟩), .pointer (some ⟨w.heap.size + 1, 0, none⟩)]] 55)) A0 c0 l0 true := by
  refine ⟨⟨?_, ?_, hc0, ?_, hm⟩, ?_, ?_⟩
  · rw [heap_alloc_old _ _ (by simp; omega), heap_alloc_old _ _ (by simp), heap_alloc_new]
  · rw [heap_alloc_old _ _ (by simp)]
    have := heap_alloc_new (w.alloc (.cells #[.slice A0 l0.length c0] 25)) (.cells #[.bool true] 4)
    simpa using this
  · exact Kd.C_alloc (Kd.C_alloc (Kd.C_alloc hr0 _) _) _
  · have := heap_alloc_new ((w.alloc (.cells #[.slice A0 l0.length c0] 25)).alloc (.cells #[.bool true] 4)) (.cells #[.func (.func 30) #[] #[.pointer (some ⟨w.heap.size, 0, none⟩), .pointer (some ⟨w.heap.size + 1, 0, none⟩)]] 55)
    simpa using this
  · exact below_alloc (below_alloc (below_alloc (Below.refl _ _) _) _) _
set_option maxHeartbeats 4000000 in
set_option maxRecDepth 100000 in
theorem box_Read.any (A0 : Option Addr) (c0 : Nat) (l0 : List Int) (w : World) (hr0 : Kd.C (Kd.int .u8) w A0 l0.length l0) (hc0 : l0.length ≤ c0) (hm : l0.length ≤ 1048576) (hw : Bytes l0) :
    Calls Try.prog 19 #[.slice A0 l0.length c0] w (ReadPost w l0) := by
  have HI := Aside0.mk (rstart w A0 c0 l0 hr0 hc0 hm)
  have HR0 := Aside0.mk hr0
  have HC0 := Aside0.mk hc0
  have HW := Aside0.mk hw
  obtain ⟨hn0, hn1⟩ := numL_bound hw 6 2
  obtain ⟨cnt, hcnt⟩ : ∃ cnt : Nat, (if 16 < numL l0 6 2 then 16 else numL l0 6 2) = (cnt : Int) ∧ cnt = cntF l0 ∧ cnt ≤ 16 := ⟨cntF l0, by unfold cntF mn; omega, rfl, by unfold cntF mn; omega⟩
  obtain ⟨hcnt, hcf, hc16⟩ := hcnt
  have HCF := Aside0.mk hcf
  clear hr0 hc0 hw hcf hn0 hn1
  have hmf : ∀ (fn : Fn) (first cap : Array Value) (w : World), (Instr.makeFunc fn first cap).run Try.prog w = .ok (.func fn first cap) w := fun _ _ _ _ => rfl
  go_enter Try.func19, Try.ntmps19
  go_wp2_with (go_at_call 31; refine (rnum w _ A0 c0 l0 true 6 2 HI.out (by omega) (by omega) HW.out).mono ?_; rintro e w1 ⟨rfl, hi_, hg_⟩; have HI1 := Aside0.mk hi_; clear hi_ hg_)
  have HO0 := Aside0.mk (Kd.R_nil k50 50 w1 w.heap.size (fun _ => True))
  go_loopw [7, 18] (fun v7 v18 wr => ∃ i : Nat, i ≤ cnt ∧ v18 = .int .i64 i ∧ Aside0 (RdI w wr A0 c0 l0 (okF l0 i)) ∧ Aside0 (Kd.R k50 50 wr w.heap.size (fun _ => True) v7 (outF l0 i))) (fun _ v18 _ => cnt - (intOf v18).toNat)
  case atStart => exact ⟨0, Nat.zero_le _, rfl, ⟨by simpa [okF] using HI1.out⟩, HO0⟩
  case round =>
    obtain ⟨i, hi, rfl, HI2, HO⟩ := hrel
    by_cases hlt : i < cnt
    · have hA := (blk_cell HI2.out.caps.hb 0).trans rfl
      have hP := (blk_cell HI2.out.hp 0).trans rfl
      obtain ⟨ha0, ha1⟩ := numL_bound HW.out (16 + 12 * i + 4) 4
      obtain ⟨hb0, hb1⟩ := numL_bound HW.out (16 + 12 * i + 8) 4
      have HA0 := Aside0.mk ha0
      have HA1 := Aside0.mk (show numL l0 (16 + 12 * i + 4) 4 < 4294967296 from ha1)
      have HB0 := Aside0.mk hb0
      have HB1 := Aside0.mk (show numL l0 (16 + 12 * i + 8) 4 < 4294967296 from hb1)
      clear ha0 ha1 hb0 hb1
      go_upto_region 9 with (fail)
      go_cut [10] (fun v10 wc => ∃ A' c', v10 = .slice A' (rowF l0 i).f1.length c' ∧ Aside0 ((rowF l0 i).f1.length ≤ c') ∧ Aside0 (Kd.C (Kd.int .u8) wc A' (rowF l0 i).f1.length (rowF l0 i).f1) ∧ Aside0 (RdI w wc A0 c0 l0 (((okF l0 i && inR l0 (16 + 12 * i + 4) 4) && inR l0 (16 + 12 * i + 8) 4) && inR l0 (numL l0 (16 + 12 * i + 4) 4).toNat (numL l0 (16 + 12 * i + 8) 4).toNat)) ∧ Aside0 (Kd.R k50 50 wc w.heap.size (fun _ => True) u7 (outF l0 i)))
      case first =>
        have HI2d := Aside0.mk (HI2.out.below (below_drew (Below.refl wr.heap.size wr)))
        have HOd := Aside0.mk (Kd.R_drew HO.out)
        have hPd := (blk_cell HI2d.out.hp 0).trans rfl
        have e4 : IntKind.i64.wrap (16 + 12 * (i : Int) + 4) = 16 + 12 * (i : Int) + 4 := IntWalk.i64_in _ (by omega)
        have e8 : IntKind.i64.wrap (16 + 12 * (i : Int) + 8) = 16 + 12 * (i : Int) + 8 := IntWalk.i64_in _ (by omega)
        have u4 : 16 + 12 * (i : Int) + 4 = ((16 + 12 * i + 4 : Nat) : Int) := by omega
        have u8 : 16 + 12 * (i : Int) + 8 = ((16 + 12 * i + 8 : Nat) : Int) := by omega
        have U4 := Aside0.mk u4
        have U8 := Aside0.mk u8
        have F4 := Aside0.mk (show 16 + 12 * i + 4 ≤ 1099511627776 by omega)
        have F8 := Aside0.mk (show 16 + 12 * i + 8 ≤ 1099511627776 by omega)
        clear u4 u8
        go_region_with (first | (go_at_call 31; (with_reducible refine (rnumI w _ A0 c0 l0 _ (16 + 12 * (i : Int) + 4) 4 (16 + 12 * i + 4) 4 U4.out rfl HI2d.out F4.out (Nat.le_refl _) HW.out).mono ?_); rintro e w3 ⟨rfl, hi_, hg_⟩; have HI3 := Aside0.mk hi_; have HO3 := Aside0.mk (R50_over HOd.out HI2d.out hg_); have hP3 := (blk_cell HI3.out.hp 0).trans rfl; clear hi_ hg_) | (go_at_call 31; (with_reducible refine (rnumI w _ A0 c0 l0 _ (16 + 12 * (i : Int) + 8) 4 (16 + 12 * i + 8) 4 U8.out rfl HI3.out F8.out (Nat.le_refl _) HW.out).mono ?_); rintro e w4 ⟨rfl, hi_, hg_⟩; have HI4 := Aside0.mk hi_; have HO4 := Aside0.mk (R50_over HO3.out HI3.out hg_); have hP4 := (blk_cell HI4.out.hp 0).trans rfl; clear hi_ hg_) | (go_at_call 30; (with_reducible refine (rpartI w _ A0 c0 l0 _ (numL l0 (16 + 12 * i + 4) 4) (numL l0 (16 + 12 * i + 8) 4) HA0.out HB0.out HI4.out HA1.out HB1.out).mono ?_); rintro e w5 ⟨A', c', rfl, hlc, hC, hi_, hg_⟩; have HI5 := Aside0.mk hi_; have HLC := Aside0.mk hlc; have HC5 := Aside0.mk hC; have HO5 := Aside0.mk (R50_over HO4.out HI4.out hg_); clear hi_ hg_ hlc hC))
        all_goals (go_wp2_with fail; go_meet; exact ⟨A', c', rfl, HLC, HC5, HI5, HO5⟩)
      case rest =>
        obtain ⟨A', c', rfl, HLC, HC5, HI5, HO5⟩ := hcut
        clear HI2 HO HA0 HA1 HB0 HB1 hA hP
        have hP5 := (blk_cell HI5.out.hp 0).trans rfl
        have U0 := Aside0.mk (show 16 + 12 * (i : Int) = ((16 + 12 * i : Nat) : Int) by omega)
        have hfl := partL_len l0 (numL l0 (16 + 12 * i + 4) 4).toNat (numL l0 (16 + 12 * i + 8) 4).toNat
        have HCF1 := Aside0.mk (show slices_Clone_byte_byte.f (rowF l0 i).f1 = some (rowF l0 i).f1 from by unfold slices_Clone_byte_byte.f; rw [if_pos]; exact Nat.lt_of_le_of_lt hfl (by omega))
        clear hfl
        go_wp2_with (first | (go_at_call 31; (with_reducible refine (rnumI w _ A0 c0 l0 _ (16 + 12 * (i : Int)) 4 (16 + 12 * i) 4 U0.out rfl HI5.out (by omega) (Nat.le_refl _) HW.out).mono ?_); rintro e w6 ⟨rfl, hi_, hg_⟩; have HI6 := Aside0.mk hi_; have HO6 := Aside0.mk (R50_over HO5.out HI5.out hg_); have HC6 := Aside0.mk (C_over HC5.out HI5.out.caps.hk hg_); clear hi_ hg_) | ((with_reducible refine gate_callee (f := 18) rfl ?_); refine goesL_ (some 39) rfl rfl Try.func18 (by kernel_rfl) rfl #[.slice A' (rowF l0 i).f1.length c'] rfl (by (try simp only [List.map_toArray, List.map_cons, List.map_nil]); first | done | rfl) ?_; (with_reducible refine (slices_Clone_byte_byte.calls _ _ (rowF l0 i).f1 (rowF l0 i).f1 _ HC6.out HLC.out HCF1.out).mono ?_); rintro e w7 ⟨vd, rfl, ho_, hb_⟩; refine ⟨_, rfl, ?_⟩; have HI7 := Aside0.mk (HI6.out.below hb_); have HO7 := Aside0.mk (Kd.R_below HO6.out hb_); have HD7 := Aside0.mk (Kd.R_lower (Kd.R_mono (Kd.R_bound ho_) (fun k hk => (hk.2.1 : w6.heap.size ≤ k))) HI6.out.bel.size); have HLT := Aside0.mk (Kd.R_lt HO6.out); clear ho_ hb_; obtain ⟨Ad, cd, ed⟩ := Kd.R_slice HD7.out; subst ed) | ((with_reducible refine gate_builtin (b := .append) (xs := #[.tmp 34, .tmp 41]) rfl ?_); at_builtin; refine Kd.R_append k50 (w0 := w) (W := w7) w.heap.size rfl (.tmp 34) (.tmp 41) 29 50 (.agg #[(.int .i64 0), (.slice none 0 0)]) 32 rfl Try.underlying29 info50_ rfl (by decide) (by omega) u7 (outF l0 i) (rowF l0 i) [.int .i64 (rowF l0 i).f0, .slice Ad (rowF l0 i).f1.length cd] (fun _ => True) (fun k => w6.heap.size ≤ k) rfl rfl ?aP ?aK ?aF ?aO ?aB ?aS ?aL ?_; (case aP => exact k50_mkM _ _ _ (rowF l0 i) HD7.out); (case aK => exact fun k hk => ⟨trivial, fun e_ => by have := HLT.out k e_.symm; omega⟩); (case aF => exact fun _ _ => trivial); (case aO => exact HO7.out); (case aB => exact HI7.out.bel); (case aS => exact HI7.out.bel.size); (case aL => rw [outF_length]; omega); intro v8 w8 ho hb hg hat; have HI8 := Aside0.mk (HI7.out.grown HO7.out hg hb HR0.out); have HO8 := Aside0.mk ho; clear ho hb hg hat))
        go_roundw
        case rel => exact ⟨i + 1, by omega, by go_num, ⟨by rw [okF_succ]; exact HI8.out⟩, ⟨by rw [outF_succ]; exact HO8.out⟩⟩
        case measure => simp [intOf]; omega
    · have hil : i = cnt := by omega
      subst hil
      have hB := (blk_cell HI2.out.caps.hb 0).trans rfl
      obtain ⟨Ao, co, eo⟩ := Kd.R_slice HO.out
      subst eo
      have hsane : Sane (outF l0 i) := by
        refine ⟨by rw [outF_length]; omega, fun s hs => ?_⟩
        obtain ⟨j, _, rfl⟩ := List.mem_map.1 hs
        have := partL_len l0 (numL l0 (16 + 12 * j + 4) 4).toNat (numL l0 (16 + 12 * j + 8) 4).toNat
        show (partL l0 (numL l0 (16 + 12 * j + 4) 4).toNat (numL l0 (16 + 12 * j + 8) 4).toNat).length ≤ _
        omega
      have HSA := Aside0.mk hsane
      clear hsane
      have hbad : ReadPost w l0 (.returned (.tuple #[.slice none 0 0, .int .i64 19])) wr → True := fun _ => trivial
      clear hbad
      by_cases hok : okF l0 i = true
      · have hK := (blk_cell HI2.out.caps.hk 0).trans rfl
        rw [hok] at hK
        by_cases hz : wcheck (outF l0 i) = 0
        · have HWF := Aside0.mk (show box_Write.f (outF l0 i) = some (wbytes (outF l0 i), 0) from by unfold box_Write.f; rw [if_pos HSA.out, if_pos hz])
          have HEQ := Aside0.mk (equal_f (wbytes (outF l0 i)) l0 (wsize16 _ HSA.out hz) ((wbytes (outF l0 i)).length + 1) (by omega))
          have HOK := Aside0.mk hok
          have HZ := Aside0.mk hz
          clear hok hz
          obtain ⟨bq, hbq⟩ : ∃ bq, bq = decide (wbytes (outF l0 i) = l0) := ⟨_, rfl⟩
          rw [← hbq] at HEQ
          have HBQ := Aside0.mk hbq
          clear hbq
          cases bq
          all_goals
            go_wp2_with (first | ((with_reducible refine gate_callee (f := 11) rfl ?_); refine goesL_ (some 48) rfl rfl Try.func11 (by kernel_rfl) rfl #[.slice Ao (outF l0 i).length co] rfl (by (try simp only [List.map_toArray, List.map_cons, List.map_nil]); first | done | rfl) ?_; (with_reducible refine (box_Write.calls _ _ (outF l0 i) _ _ _ ?side1 ?side2 HWF.out).mono ?_); (case side1 => exact (Kd.R_reads' HO.out).2.2); (case side2 => exact (Kd.R_reads' HO.out).2.1); rintro e w9 ⟨v9, rfl, ho_, hb_⟩; refine ⟨_, rfl, ?_⟩; have HI9 := Aside0.mk (HI2.out.below hb_); have HO9 := Aside0.mk (Kd.R_below HO.out hb_); have HW9 := Aside0.mk ho_; clear ho_ hb_; obtain ⟨A9, c9, e9⟩ := Kd.R_slice HW9.out; subst e9; have hB9 := (blk_cell HI9.out.caps.hb 0).trans rfl) | (go_at_call 32; (with_reducible refine (slices_Equal_byte_byte.calls ((wbytes (outF l0 i)).length + 1) _ _ (wbytes (outF l0 i)) _ _ l0 _ _ ?side1 ?side2 ?side3 ?side4 HEQ.out).mono ?_); (case side1 => exact (Kd.R_reads' HW9.out).2.2); (case side2 => exact (Kd.R_reads' HW9.out).2.1); (case side3 => exact HI9.out.caps.hc); (case side4 => exact HC0.out); rintro e w' ⟨rfl, ⟨nd, rfl⟩⟩))
            go_ret2
          · exact ReadPost.no (pw_below_drewN HI9.out.bel nd) HCF.out (fun h => by have := of_decide_eq_false HBQ.out.symm; exact this h.2.2)
          · exact ReadPost.yes (Kd.R_drewN HO9.out nd) (pw_below_drewN HI9.out.bel nd) HCF.out ⟨HOK.out, HZ.out, of_decide_eq_true HBQ.out.symm⟩
        · have HWF := Aside0.mk (show box_Write.f (outF l0 i) = some ([], wcheck (outF l0 i)) from by unfold box_Write.f; rw [if_pos HSA.out, if_neg hz])
          have HZ := Aside0.mk hz
          have hz1 : (wcheck (outF l0 i) != 0) = true := by simpa using hz
          clear hok hz
          go_wp2_with (first | ((with_reducible refine gate_callee (f := 11) rfl ?_); refine goesL_ (some 48) rfl rfl Try.func11 (by kernel_rfl) rfl #[.slice Ao (outF l0 i).length co] rfl (by (try simp only [List.map_toArray, List.map_cons, List.map_nil]); first | done | rfl) ?_; (with_reducible refine (box_Write.calls _ _ (outF l0 i) _ _ _ ?side1 ?side2 HWF.out).mono ?_); (case side1 => exact (Kd.R_reads' HO.out).2.2); (case side2 => exact (Kd.R_reads' HO.out).2.1); rintro e w9 ⟨v9, rfl, ho_, hb_⟩; refine ⟨_, rfl, ?_⟩; have HI9 := Aside0.mk (HI2.out.below hb_); clear ho_ hb_))
          go_ret2
          exact ReadPost.no HI9.out.bel HCF.out (fun h => HZ.out h.2.1)
      · have hok2 : okF l0 i = false := by simpa using hok
        have hK := (blk_cell HI2.out.caps.hk 0).trans rfl
        rw [hok2] at hK
        have HOK := Aside0.mk hok
        clear hok hok2
        go_wp2
        go_ret2
        exact ReadPost.no HI2.out.bel HCF.out (fun h => HOK.out h.1)
theorem box_Read.calls (A0 : Option Addr) (c0 : Nat) (l0 : List Int) (r1 : List S50) (r2 : Int) (w : World) (hr0 : Kd.C (Kd.int .u8) w A0 l0.length l0) (hc0 : l0.length ≤ c0) (h : box_Read.f l0 = some (r1, r2)) :
    Calls Try.prog 19 #[.slice A0 l0.length c0] w fun e w' => ∃ v0_ : Value, e = .returned (.tuple #[v0_, .int .i64 r2]) ∧ Kd.V k50 50 w' w.heap.size (fun k_ => (w.heap.size ≤ k_)) v0_ r1 ∧ Below w.heap.size w w' := by
  unfold box_Read.f at h
  split at h
  · rename_i hh
    rw [Option.some.inj h.symm |> fun (e : (r1, r2) = readRes l0) => congrArg Prod.fst e |> fun e1 => (e1 : r1 = (readRes l0).1), Option.some.inj h.symm |> fun (e : (r1, r2) = readRes l0) => congrArg Prod.snd e |> fun e1 => (e1 : r2 = (readRes l0).2)]
    exact box_Read.any A0 c0 l0 w hr0 hc0 hh.1 hh.2
  · cases h

end Go.Proofs.Ytnpjfkleoijbiaa.PAll
