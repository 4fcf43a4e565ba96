-- By a program of this session (xp.py) over the kit's print, with texts of this session.
import Derived.Test.YtdjljggdbflohaaDoorPAllx0
import Derived.Test.YtdjljggdbflohaaDoorPAllx2
import Derived.Test.YtdjljggdbflohaaDoorLexIdx
import Derived.Test.YtdjljggdbflohaaDoorLexStr
import Derived.WalkSpells
namespace Go.Proofs.YtdjljggdbflohaaDoor.PAll
open Go.RowKit Go.Proofs.YtdjljggdbflohaaDoorW.PrintWords Go.Proofs.YtdjljggdbflohaaDoorW.PrintLast Go.Proofs.YtdjljggdbflohaaDoorW.PrintMore
attribute [local go_sem] max2_int min2_int max_two min_two max_three min_three max_four min_four   -- for this text's walks alone
set_option linter.unusedVariables false
set_option linter.unusedSimpArgs false

-- EXTERN
-- XIMPORT Derived.Test.YtdjljggdbflohaaDoorLexIdx Derived.Test.YtdjljggdbflohaaDoorLexStr Derived.WalkSpells
/-! ### lex.Tokens -/
theorem tokInfo : (Tryd.prog.info? 31).map (fun i => (i.zero, i.size, i.bytes)) = some (some (.agg #[(.string ⟨#[]⟩), (.int .i64 0)]), 2, 24) := by kernel_rfl
/-- The tokens from the byte i on, where the bytes ahead of nx belong to the last token; the place of the first wrong byte. -/
def tkS : List UInt8 → Nat → Nat → List S31 × Option Nat
  | [], _, _ => ([], none)
  | b :: r, i, nx =>
    if i < nx then tkS r (i + 1) nx
    else if wordN (b :: r) ≠ 0 then (⟨⟨((b :: r).take (wordN (b :: r))).toArray⟩, i⟩ :: (tkS r (i + 1) (i + wordN (b :: r))).1, (tkS r (i + 1) (i + wordN (b :: r))).2)
    else if litI litM b.toNat = true then (⟨⟨#[b]⟩, i⟩ :: (tkS r (i + 1) nx).1, (tkS r (i + 1) nx).2)
    else if litI litC b.toNat = true then ([], none)
    else if litI litS b.toNat = true then tkS r (i + 1) nx
    else ([], some i)
def tkR : List S31 × Option Nat → List S31 × Int × Int
  | (ts, none) => (ts, 0, 0)
  | (_, some i) => ([], i, 2)
def lex_Tokens.f (a0 : ByteArray) : Option (List S31 × Int × Int) := if a0.size ≤ 1073741824 then some (tkR (tkS a0.data.toList 0 0)) else none
/-- What a round keeps. -/
structure TokSt (w : World) (a0 : ByteArray) (p : Nat) (v : Value) (out : List S31) (X : World) : Prop where
  row : Kd.R k31 31 X w.heap.size (fun k => w.heap.size < k) v out
  it : X.heap[w.heap.size]? = some (.stringIter a0 p)
  bel : Below w.heap.size w X
theorem TokSt.lt {w : World} {a0 : ByteArray} {p : Nat} {v : Value} {out : List S31} {X : World} (h : TokSt w a0 p v out X) : w.heap.size < X.heap.size := (Array.getElem?_eq_some_iff.1 h.it).1
theorem TokSt.below {w : World} {a0 : ByteArray} {p : Nat} {v : Value} {out : List S31} {X X2 : World} (h : TokSt w a0 p v out X) (hb : Below X.heap.size X X2) : TokSt w a0 p v out X2 :=
  ⟨Kd.R_below h.row hb, (hb.block _ h.lt).trans h.it, below_then h.bel (Nat.le_of_lt h.lt) hb⟩
theorem TokSt.step {w : World} {a0 : ByteArray} {p : Nat} {v : Value} {out : List S31} {X : World} (h : TokSt w a0 p v out X) (p2 : Nat) : TokSt w a0 p2 v out (X.iterAt w.heap.size a0 p2) :=
  ⟨Kd.R_step h.row (fun k hk _ => Lib.iterAt_other X w.heap.size k a0 p2 (by omega)), Lib.iterAt_heap X w.heap.size a0 p p2 h.it, Lib.below_iterAt h.bel (Nat.le_refl _) a0 p2⟩
theorem TokSt.appended {w : World} {a0 : ByteArray} {p : Nat} {v v1 : Value} {out : List S31} {t : S31} {X X1 : World} (h : TokSt w a0 p v out X) (ho : Kd.R k31 31 X1 w.heap.size (fun k => w.heap.size < k) v1 (out ++ [t])) (hb : Below w.heap.size w X1) (hg : X.grownBy X1 v.ownBlock) : TokSt w a0 p v1 (out ++ [t]) X1 :=
  ⟨ho, (hg.block _ h.lt (fun e => by have h1 := h.row.1 _ e.symm; omega)).trans h.it, hb⟩
theorem iter_less {w wr X : World} {a0 : ByteArray} {L p : Nat} (h1 : wr.heap[w.heap.size]? = some (.stringIter a0 p)) (h2 : X.heap[w.heap.size]? = some (.stringIter a0 (p + 1))) (hl : p < L) : L - X.iterPos w.heap.size < L - wr.iterPos w.heap.size := by
  simp only [World.iterPos, h1, h2]
  omega
theorem take_extract (s : ByteArray) (l : List UInt8) (hl : s.data.toList = l) (p n : Nat) : s.extract p (p + n) = ⟨((l.drop p).take n).toArray⟩ := ba_eq _ _ (by rw [Lib.extract_data, hl, Nat.add_sub_cancel_left])
set_option maxHeartbeats 16000000 in
set_option maxRecDepth 100000 in
theorem lex_Tokens.calls (a0 : ByteArray) (r1 : List (S31)) (r2 : Int) (r3 : Int) (w : World) (h : lex_Tokens.f a0 = some (r1, r2, r3)) (hL : LaidI w) :
    Calls Tryd.prog 10 #[.string a0] w fun e w' => ∃ v0_ : Value, e = .returned (.tuple #[v0_, .int .i64 r2, .int .i64 r3]) ∧ Kd.R k31 31 w' w.heap.size (fun _ => True) v0_ r1 ∧ Below w.heap.size w w' := by
  unfold lex_Tokens.f at h
  split at h
  rotate_left
  · cases h
  rename_i hs
  replace h := Option.some.inj h
  have HL := Aside0.mk hL
  clear hL
  obtain ⟨l, hl⟩ : ∃ l, a0.data.toList = l := ⟨_, rfl⟩
  have hlen : a0.size = l.length := by rw [← data_length, hl]
  rw [hl] at h
  have HR := Aside0.mk h
  clear h
  have hget : ∀ (i : Nat) (h : i < l.length) (h' : i < a0.size), a0[i]'(h') = l[i] := by
    intro i h h'
    subst hl
    rfl
  have HGET := Aside0.mk hget
  have HEX := Aside0.mk (take_extract a0 l hl)
  have HEND := Aside0.mk (show ∀ p : Nat, (a0.extract p a0.size).data.toList = l.drop p from fun p => by rw [Lib.extract_data, hl, List.take_of_length_le (by rw [List.length_drop]; omega)])
  have hle1 : a0.size ≤ l.length := by omega
  have hle2 : l.length ≤ a0.size := by omega
  clear hget hl hlen
  go_enter Tryd.func10, Tryd.ntmps10
  go_wp2
  go_loopw [5, 6] (fun v5 v6 wr => ∃ (pos nx : Nat) (out : List S31), v6 = .int .i64 nx ∧ pos ≤ l.length ∧ nx ≤ l.length ∧ out.length ≤ pos ∧ Aside0 (nx ≤ pos + wordN (l.drop pos)) ∧ Aside0 (tkS l 0 0 = (out ++ (tkS (l.drop pos) pos nx).1, (tkS (l.drop pos) pos nx).2)) ∧ Aside0 (TokSt w a0 pos v5 out wr)) (fun _ _ wr => l.length - wr.iterPos w.heap.size)
  case atStart => exact ⟨0, 0, [], rfl, Nat.zero_le _, Nat.zero_le _, Nat.le_refl _, ⟨Nat.zero_le _⟩, ⟨by simp⟩, ⟨Kd.R_nil _ _ _ _ _, World.iter_heap w a0 0, below_alloc (Below.refl _ _) _⟩⟩
  case round =>
    obtain ⟨pos, nx, out, rfl, hpos, hnxl, hout, HN, HT, ST⟩ := hrel
    by_cases hlt : pos < l.length
    · obtain ⟨b, hbe⟩ : ∃ b, b = l[pos] := ⟨_, rfl⟩
      have hdr : l.drop pos = b :: l.drop (pos + 1) := by rw [hbe]; exact List.drop_eq_getElem_cons hlt
      have hsz : pos < a0.size := by omega
      have hbs : a0[pos]'hsz = b := by rw [hbe]; exact HGET.out pos hlt hsz
      have hb8 := b.toNat_lt
      have hT := HT.out
      have hN := HN.out
      rw [hdr] at hT hN
      simp only [tkS] at hT
      clear HT HN
      have HDR := Aside0.mk hdr
      clear hdr hbe
      by_cases hsk : pos < nx
      · rw [if_pos hsk] at hT
        have hi : inW b.toNat = true := by
          refine Decidable.byContradiction fun hne => ?_
          simp only [wordN, if_neg hne] at hN
          omega
        have ha : b.toNat < 128 := by
          refine Decidable.byContradiction fun h => ?_
          rw [inW_high _ (by omega)] at hi
          cases hi
        simp only [wordN, if_pos hi] at hN
        have hnx : ∀ ty, (Instr.next (.pointer (some ⟨w.heap.size, 0, none⟩)) true ty).run Tryd.prog wr = .ok (.tuple #[.bool true, .int .i64 pos, .int .i32 b.toNat]) (wr.iterAt w.heap.size a0 (pos + 1)) := fun ty => by
          have h := Lib.run_next_ascii_at (P := Tryd.prog) wr w.heap.size a0 pos ty ST.out.it hsz (by rw [hbs]; exact ha)
          rw [hbs] at h
          exact h
        have ST2 := Aside0.mk (ST.out.step (pos + 1))
        have HT2 := Aside0.mk hT
        have HN2 := Aside0.mk hN
        have hsk2 : (pos : Int) < nx := by omega
        obtain ⟨c, hce⟩ : ∃ c : Int, c = (b.toNat : Int) := ⟨_, rfl⟩
        rw [← hce] at hnx
        clear hT hN hbs hi ha hb8 hce hsk
        go_wp2
        refine ⟨⟨pos + 1, nx, out, rfl, by omega, hnxl, by omega, ⟨by have := HN2.out; omega⟩, HT2, ST2⟩, ?_⟩
        have g1 := ST2.out.it
        have g2 := ST.out.it
        simp only [World.iterPos, g1, g2]
        omega
      · rw [if_neg hsk] at hT
        have hsk2 : ¬ (pos : Int) < nx := by omega
        obtain ⟨n, hn⟩ : ∃ n, wordN (b :: l.drop (pos + 1)) = n := ⟨_, rfl⟩
        have hwl : n ≤ l.length - pos := by
          rw [← hn]
          have := wordN_le (b :: l.drop (pos + 1))
          simp at this
          omega
        have hwf : ident_Word.f (a0.extract pos a0.size) = some (n : Int) := by
          unfold ident_Word.f
          rw [if_pos (by rw [← data_length, HEND.out, List.length_drop]; omega), HEND.out, HDR.out, hn]
        have HW := Aside0.mk (fun w h => ident_Word.calls _ _ w hwf h)
        rw [hn] at hT hN
        clear hwf
        by_cases hn0 : n = 0
        · obtain rfl : n = 0 := hn0
          rw [if_neg (by omega)] at hT
          have HW0 : Aside0 (∀ w, LaidI w → Calls Tryd.prog 23 #[.string (a0.extract pos a0.size)] w fun e w' => e = .returned (.int .i64 0) ∧ Below w.heap.size w w') := ⟨fun w h => by simpa using HW.out w h⟩
          obtain ⟨c, hc0, hc1, hcM, hcC, hcS, p2, hp2, hnx⟩ : ∃ c : Int, 0 ≤ c ∧ c ≤ 2147483647 ∧ litI litM c = litI litM b.toNat ∧ litI litC c = litI litC b.toNat ∧ litI litS c = litI litS b.toNat ∧ ∃ p2, (b.toNat < 128 → p2 = pos + 1) ∧ ∀ ty, (Instr.next (.pointer (some ⟨w.heap.size, 0, none⟩)) true ty).run Tryd.prog wr = .ok (.tuple #[.bool true, .int .i64 pos, .int .i32 c]) (wr.iterAt w.heap.size a0 p2) := by
            by_cases ha : b.toNat < 128
            · refine ⟨b.toNat, by omega, by omega, rfl, rfl, rfl, pos + 1, fun _ => rfl, fun ty => ?_⟩
              have h := Lib.run_next_ascii_at (P := Tryd.prog) wr w.heap.size a0 pos ty ST.out.it hsz (by rw [hbs]; exact ha)
              rw [hbs] at h
              exact h
            · have hh := decode_high a0 pos hsz (by rw [hbs]; omega)
              have hle := decode_le a0 pos
              refine ⟨(Utf8.decode a0 pos).1, by omega, by omega, ?_, ?_, ?_, _, fun h => absurd h ha, fun ty => Lib.run_next_any_at (P := Tryd.prog) wr w.heap.size a0 pos ty ST.out.it hsz⟩
              · rw [litI_high _ litM_low128 _ (by omega), litI_high _ litM_low128 _ (by omega)]
              · rw [litI_high _ litC_low128 _ (by omega), litI_high _ litC_low128 _ (by omega)]
              · rw [litI_high _ litS_low128 _ (by omega), litI_high _ litS_low128 _ (by omega)]
          have ST0 := ST
          replace ST := Aside0.mk (ST.out.step p2)
          have CM := Aside0.mk (fun w => ContainsM c w hc0 hc1)
          have CC := Aside0.mk (fun w => ContainsC c w hc0 hc1)
          have CS := Aside0.mk (fun w => ContainsS c w hc0 hc1)
          rw [hcM] at CM
          rw [hcC] at CC
          rw [hcS] at CS
          have hlo : (litI litM b.toNat = true ∨ litI litS b.toNat = true) → b.toNat < 128 := by
            intro h
            refine Decidable.byContradiction fun hge => ?_
            rw [litI_high _ litM_low128 _ (by omega), litI_high _ litS_low128 _ (by omega)] at h
            simp at h
          have hl30 : l.length ≤ 1073741824 := by omega
          have HN2 := Aside0.mk hN
          clear hN hbs hb8 hsk hcM hcC hcS HW hn hwl
          cases hM : litI litM b.toNat with
          | true =>
            rw [if_pos hM] at hT
            rw [hM] at CM
            obtain rfl := hp2 (hlo (.inl hM))
            have HT2 := Aside0.mk hT
            clear hT hM hlo hp2
            go_wp2_with fail
            refine (HW0.out _ (HL.out.below ST.out.bel)).mono ?_
            rintro e w2 ⟨rfl, hb2⟩
            replace ST := Aside0.mk (ST.out.below hb2)
            clear hb2
            go_wp2_with fail
            refine (CM.out _).mono ?_
            rintro e w3 ⟨rfl, hb2⟩
            replace ST := Aside0.mk (ST.out.below hb2)
            have hlt2 := ST.out.lt
            clear hb2
            go_wp2_with ((with_reducible refine gate_builtin (b := .append) (xs := #[.tmp 41, .tmp 49]) rfl ?_); at_builtin; refine Kd.R_append k31 (w0 := w) w.heap.size rfl (.tmp 41) (.tmp 49) 23 31 (.agg #[(.string ⟨#[]⟩), (.int .i64 0)]) 24 rfl Tryd.underlying23 tokInfo rfl (by decide) (by omega) u5 out (⟨(a0.extract pos (pos + 1)), (pos : Int)⟩ : S31) [.string (a0.extract pos (pos + 1)), .int .i64 (pos : Int)] (fun k => w.heap.size < k) (fun _ => False) rfl rfl ?aP (fun _ hk => hk.elim) ?aF ?aO ?aB ?aS ?aL ?_; (case aP => exact k31_mkM _ _ _ _); (case aB => exact ST.out.bel); (case aF => exact (fun k hk => Nat.lt_of_lt_of_le ST.out.lt hk)); (case aO => exact ST.out.row); (case aS => exact Nat.le_of_lt ST.out.lt); (case aL => omega); intro v1 w5 ho hb hg hat; have ST2 := Aside0.mk (TokSt.appended ST.out ho hb hg); clear ho hb hg hat ST)
            exact ⟨⟨pos + 1, nx, out ++ [⟨a0.extract pos (pos + 1), pos⟩], rfl, by omega, hnxl, by simp; omega, ⟨by omega⟩, ⟨by rw [HT2.out, HEX.out pos 1, HDR.out]; simp⟩, ST2⟩, iter_less ST0.out.it ST2.out.it hlt⟩
          | false =>
            rw [if_neg (by rw [hM]; decide)] at hT
            rw [hM] at CM
            cases hC : litI litC b.toNat with
            | true =>
              rw [if_pos hC] at hT
              rw [hC] at CC
              simp only [List.append_nil] at hT
              have HRR := Aside0.mk HR.out
              rw [hT] at HRR
              clear hT hM hlo hp2 hC
              go_wp2_with fail
              refine (HW0.out _ (HL.out.below ST.out.bel)).mono ?_
              rintro e w2 ⟨rfl, hb2⟩
              replace ST := Aside0.mk (ST.out.below hb2)
              clear hb2
              go_wp2_with fail
              refine (CM.out _).mono ?_
              rintro e w3 ⟨rfl, hb2⟩
              replace ST := Aside0.mk (ST.out.below hb2)
              clear hb2
              go_wp2_with fail
              refine (CC.out _).mono ?_
              rintro e w4 ⟨rfl, hb2⟩
              replace ST := Aside0.mk (ST.out.below hb2)
              clear hb2
              go_wp2_with fail
              go_ret3
              have h := HRR.out
              simp only [tkR, Prod.mk.injEq] at h
              obtain ⟨rfl, rfl, rfl⟩ := h
              exact ⟨_, rfl, Kd.R_mono ST.out.row (fun _ _ => trivial), ST.out.bel⟩
            | false =>
              rw [if_neg (by rw [hC]; decide)] at hT
              rw [hC] at CC
              cases hS : litI litS b.toNat with
              | true =>
                rw [if_pos hS] at hT
                rw [hS] at CS
                obtain rfl := hp2 (hlo (.inr hS))
                have HT2 := Aside0.mk hT
                clear hT hM hlo hp2 hC hS
                go_wp2_with fail
                refine (HW0.out _ (HL.out.below ST.out.bel)).mono ?_
                rintro e w2 ⟨rfl, hb2⟩
                replace ST := Aside0.mk (ST.out.below hb2)
                clear hb2
                go_wp2_with fail
                refine (CM.out _).mono ?_
                rintro e w3 ⟨rfl, hb2⟩
                replace ST := Aside0.mk (ST.out.below hb2)
                clear hb2
                go_wp2_with fail
                refine (CC.out _).mono ?_
                rintro e w4 ⟨rfl, hb2⟩
                replace ST := Aside0.mk (ST.out.below hb2)
                clear hb2
                go_wp2_with fail
                refine (CS.out _).mono ?_
                rintro e w5 ⟨rfl, hb2⟩
                replace ST := Aside0.mk (ST.out.below hb2)
                clear hb2
                go_wp2_with fail
                exact ⟨⟨pos + 1, nx, out, rfl, by omega, hnxl, by omega, ⟨by omega⟩, HT2, ST⟩, iter_less ST0.out.it ST.out.it hlt⟩
              | false =>
                rw [if_neg (by rw [hS]; decide)] at hT
                rw [hS] at CS
                have HRR := Aside0.mk HR.out
                rw [hT] at HRR
                clear hT hM hlo hp2 hC hS
                go_wp2_with fail
                refine (HW0.out _ (HL.out.below ST.out.bel)).mono ?_
                rintro e w2 ⟨rfl, hb2⟩
                replace ST := Aside0.mk (ST.out.below hb2)
                clear hb2
                go_wp2_with fail
                refine (CM.out _).mono ?_
                rintro e w3 ⟨rfl, hb2⟩
                replace ST := Aside0.mk (ST.out.below hb2)
                clear hb2
                go_wp2_with fail
                refine (CC.out _).mono ?_
                rintro e w4 ⟨rfl, hb2⟩
                replace ST := Aside0.mk (ST.out.below hb2)
                clear hb2
                go_wp2_with fail
                refine (CS.out _).mono ?_
                rintro e w5 ⟨rfl, hb2⟩
                replace ST := Aside0.mk (ST.out.below hb2)
                clear hb2
                go_wp2_with fail
                go_ret3
                have h := HRR.out
                simp only [tkR, Prod.mk.injEq] at h
                obtain ⟨rfl, rfl, rfl⟩ := h
                exact ⟨_, rfl, Kd.R_nil _ _ _ _ _, ST.out.bel⟩
        · have hi : inW b.toNat = true := by
            refine Decidable.byContradiction fun hne => ?_
            simp only [wordN, if_neg hne] at hn
            exact hn0 hn.symm
          have ha : b.toNat < 128 := by
            refine Decidable.byContradiction fun h => ?_
            rw [inW_high _ (by omega)] at hi
            cases hi
          simp only [wordN, if_pos hi] at hN hn
          rw [if_pos (by rw [← hn]; simp)] at hT
          have hnx : ∀ ty, (Instr.next (.pointer (some ⟨w.heap.size, 0, none⟩)) true ty).run Tryd.prog wr = .ok (.tuple #[.bool true, .int .i64 pos, .int .i32 b.toNat]) (wr.iterAt w.heap.size a0 (pos + 1)) := fun ty => by
            have h := Lib.run_next_ascii_at (P := Tryd.prog) wr w.heap.size a0 pos ty ST.out.it hsz (by rw [hbs]; exact ha)
            rw [hbs] at h
            exact h
          have ST0 := ST
          have HIT := Aside0.mk (ST.out.step (pos + 1)).it
          replace ST := Aside0.mk (ST.out.step (pos + 1))
          have HT2 := Aside0.mk hT
          have HN2 := Aside0.mk hn
          have hn1 : (0 : Int) < n := by omega
          have hpn : pos + n ≤ l.length := by omega
          have hl30 : l.length ≤ 1073741824 := by omega
          obtain ⟨c, hce⟩ : ∃ c : Int, c = (b.toNat : Int) := ⟨_, rfl⟩
          rw [← hce] at hnx
          clear hT hN hn hbs hi ha hb8 hce hsk
          go_wp2_with fail
          refine (HW.out _ (HL.out.below ST.out.bel)).mono ?_
          rintro e w2 ⟨rfl, hb2⟩
          replace ST := Aside0.mk (ST.out.below hb2)
          have hlt2 := ST.out.lt
          clear hb2
          go_wp2_with ((with_reducible refine gate_builtin (b := .append) (xs := #[.tmp 29, .tmp 36]) rfl ?_); at_builtin; refine Kd.R_append k31 (w0 := w) w.heap.size rfl (.tmp 29) (.tmp 36) 23 31 (.agg #[(.string ⟨#[]⟩), (.int .i64 0)]) 24 rfl Tryd.underlying23 tokInfo rfl (by decide) (by omega) u5 out (⟨(a0.extract pos (pos + n)), (pos : Int)⟩ : S31) [.string (a0.extract pos (pos + n)), .int .i64 (pos : Int)] (fun k => w.heap.size < k) (fun _ => False) rfl rfl ?aP (fun _ hk => hk.elim) ?aF ?aO ?aB ?aS ?aL ?_; (case aP => exact k31_mkM _ _ _ _); (case aB => exact ST.out.bel); (case aF => exact (fun k hk => Nat.lt_of_lt_of_le ST.out.lt hk)); (case aO => exact ST.out.row); (case aS => exact Nat.le_of_lt ST.out.lt); (case aL => omega); intro v1 w5 ho hb hg hat; have ST2 := Aside0.mk (TokSt.appended ST.out ho hb hg); clear ho hb hg hat ST)
          exact ⟨⟨pos + 1, pos + n, out ++ [⟨a0.extract pos (pos + n), pos⟩], by rw [Int.natCast_add], by omega, hpn, by simp; omega, ⟨by have := HN2.out; omega⟩, ⟨by rw [HT2.out, HEX.out pos n, HDR.out]; simp⟩, ST2⟩, iter_less ST0.out.it ST2.out.it hlt⟩
    · obtain rfl : pos = l.length := by omega
      have hsz : ¬ l.length < a0.size := by omega
      have hnx : ∀ ty, (Instr.next (.pointer (some ⟨w.heap.size, 0, none⟩)) true ty).run Tryd.prog wr = .ok (.tuple #[.bool false]) wr := fun ty => Lib.run_next_end_at wr w.heap.size a0 l.length ty ST.out.it hsz
      have hT := HT.out
      rw [List.drop_length] at hT
      simp only [tkS, List.append_nil] at hT
      have HRR := Aside0.mk (HR.out)
      rw [hT] at HRR
      clear hT HT HN
      go_wp2
      go_ret3
      have h := HRR.out
      simp only [tkR, Prod.mk.injEq] at h
      obtain ⟨rfl, rfl, rfl⟩ := h
      exact ⟨_, rfl, Kd.R_mono ST.out.row (fun _ _ => trivial), ST.out.bel⟩

end Go.Proofs.YtdjljggdbflohaaDoor.PAll
