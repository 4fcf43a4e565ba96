-- By a program of this session (xp.py) over the kit's print, with texts of this session.
import Derived.Test.YtbepheikefkaiaaPAllx0
import Derived.Laws.CopyOwn
import Derived.Lib.BufferWrite
import Derived.WalkSpells
import Derived.Test.YtbepheikefkaiaaShelf
import Derived.Test.YtbepheikefkaiaaStrPure
namespace Go.Proofs.Ytbepheikefkaiaa.PAll
open Go.RowKit Go.Proofs.YtbepheikefkaiaaW.PrintWords Go.Proofs.YtbepheikefkaiaaW.PrintLast Go.Proofs.YtbepheikefkaiaaW.PrintMore
attribute [local go_sem] max2_int min2_int max_two min_two max_three min_three max_four min_four   -- for this text's walks alone
set_option linter.unusedVariables false
set_option linter.unusedSimpArgs false

-- EXTERN
-- XIMPORT Derived.Laws.CopyOwn Derived.Lib.BufferWrite Derived.WalkSpells Derived.Test.YtbepheikefkaiaaShelf Derived.Test.YtbepheikefkaiaaStrPure
/-! ### strtab.Build: function 11 -/
def resB (l : List ByteArray) : List Int × List Int × Int := if l.any badS = true then ([], [], 7) else (tableB l, offs 1 l, 0)
def strtab_Build.f (l0 : List ByteArray) : Option (List Int × List Int × Int) := if Few l0 then some (resB l0) else none
def BuildPost (w : World) (l : List ByteArray) (e : Ending) (w' : World) : Prop :=
  ∃ v0_ v1_ : Value, e = .returned (.tuple #[v0_, v1_, .int .i64 (resB l).2.2]) ∧ Kd.R (Kd.int .u8) 5 w' w.heap.size (fun _ => True) v0_ (resB l).1 ∧ Kd.R (Kd.int .i64) 3 w' w.heap.size (fun _ => True) v1_ (resB l).2.1 ∧ Below w.heap.size w w'
theorem BuildPost.no {w w' : World} {l : List ByteArray} (hb : Below w.heap.size w w') (h : l.any badS = true) : BuildPost w l (.returned (.tuple #[.slice none 0 0, .slice none 0 0, .int .i64 7])) w' := by
  have e : resB l = ([], [], 7) := by unfold resB; rw [if_pos h]
  refine ⟨.slice none 0 0, .slice none 0 0, by rw [e], ?_, ?_, hb⟩
  · rw [e]; exact Kd.R_nil _ _ _ _ _
  · rw [e]; exact Kd.R_nil _ _ _ _ _
section
variable {P : Program} {ops : Array Oper} {rest : List Oper} {o : Oper} {a : Act} {Q : Exit → Act → World → Prop}
/-- copy of a string into a row: one row alone is written. -/
theorem wpList_copy_str {w : World} (hgd : o.guard = none) (d s : Operand) (dT sT : TypeId)
    (ho : o.op = .call { callee := .builtin .copy, args := #[d, s], argTypes := #[dT, sT] }) (elem : TypeId) (hu : P.underlying dT = some (.slice elem)) (hsz : (P.info? elem).map (·.size) = some 1)
    (g off dLen dCap : Nat) (y : ByteArray) (hd : a.eval d = .slice (some ⟨g, off, none⟩) dLen dCap) (hs : a.eval s = .string y)
    (cur : List Value) (t : TypeId) (hg : w.heap[g]? = some (.cells cur.toArray t (0, 0))) (hle : y.size ≤ dLen) (hfit : off + y.size ≤ cur.length)
    (h : ∀ w', Aside0 (w'.heap[g]? = some (.cells (cur.take off ++ nums .u8 (bytesOf y) ++ cur.drop (off + y.size)).toArray t (0, 0))) → w.grownBy w' (some g) → wpList P ops Q rest (a.put o.dst (goInt y.size)) w') :
    wpList P ops Q (o :: rest) a w := by
  refine wpList_plain hgd fun K hK => ?_
  have hrun := Lib.run_copy_row_string (P := P) w dT sT o.type elem g off dLen dCap y cur.toArray t hu hsz hg hle (by simpa using hfit)
  unfold Oper.wp
  simp only [execOp, ho, resolve, invoke, builtin]
  simp [hd, hs, hrun, Result.andThen]
  refine hK _ _ (h _ ⟨?_⟩ ⟨rfl, rfl, rfl, by simp [World.setRow], fun k hk hne => setRow_other w g k _ (by simpa using hne)⟩)
  rw [setRow_heap w g _ _ t _ hg]
  simp [nums, bytesOf, Lib.byteCells]
end
theorem info5s : (Try.prog.info? 5).map (·.size) = some 1 := by kernel_rfl
/-- A row that make has laid. -/
theorem made_row (w : World) (k : IntKind) (t : TypeId) (m : Nat) : (w.alloc (.cells (madeCells #[.int k 0] m) t)).heap[w.heap.size]? = some (.cells (nums k (List.replicate m 0)).toArray t (0, 0)) := by
  rw [heap_alloc_new]
  congr 2
  apply Array.ext'
  apply List.ext_getElem
  · simp [nums, size_madeCells]
  · intro i h1 h2
    simp [madeCells, nums, Nat.mod_one]
theorem lt_of_blk {w : World} {g : Nat} {o : Obj} (h : w.heap[g]? = some o) : g < w.heap.size := (Array.getElem?_eq_some_iff.1 h).1
theorem made_two (w : World) (o : Obj) (k : IntKind) (t : TypeId) (m : Nat) : ((w.alloc o).alloc (.cells (madeCells #[.int k 0] m) t)).drew.heap[w.heap.size + 1]? = some (.cells (nums k (List.replicate m 0)).toArray t (0, 0)) := by
  have h := made_row (w.alloc o) k t m
  rw [World.size_alloc] at h
  exact h
theorem made_old (w : World) (k k2 : IntKind) (t t2 : TypeId) (m n : Nat) : ((w.alloc (.cells (madeCells #[.int k 0] m) t)).alloc (.cells (madeCells #[.int k2 0] n) t2)).drew.heap[w.heap.size]? = some (.cells (nums k (List.replicate m 0)).toArray t (0, 0)) := by
  have h := made_row w k t m
  exact (Below.heap_alloc _ _ _ (lt_of_blk h)).trans h
def rowB (l : List ByteArray) (m i : Nat) : List Int := 0 :: textB (l.take i) ++ List.replicate (m - (1 + tot (l.take i))) 0
def rowO (l : List ByteArray) (i : Nat) : List Int := offs 1 (l.take i) ++ List.replicate (l.length - i) 0
/-- A row with its own numbers, as a slice that the call hands back. -/
theorem own_row {k : IntKind} {t : TypeId} {w wr : World} {g n : Nat} {xs : List Int} (h : wr.heap[g]? = some (.cells (nums k xs).toArray t (0, 0))) (hg : w.heap.size ≤ g) (hn : xs.length = n) (hm : n ≤ maxLen) :
    Kd.R (Kd.int k) t wr w.heap.size (fun _ => True) (.slice (some ⟨g, 0, none⟩) n n) xs := by
  subst hn
  refine Kd.R_of_own ?_ (fun _ _ => trivial)
  refine ⟨by simp [encs], .inr ⟨g, xs.length, _, rfl, hg, h, by omega, hm, by simp [nums_length], ?_⟩⟩
  rw [Nat.mul_one, List.take_of_length_le (by simp [nums_length])]; rfl
theorem rowB_next (l : List ByteArray) (i : Nat) (hi : i < l.length) (s : ByteArray) (hs : s = rdOf ByteArray.empty l (i : Int)) :
    (nums .u8 (rowB l (1 + tot l) i)).take (1 + tot (l.take i)) ++ nums .u8 (bytesOf s) ++ (nums .u8 (rowB l (1 + tot l) i)).drop (1 + tot (l.take i) + s.size) = nums .u8 (rowB l (1 + tot l) (i + 1)) := by
  obtain ⟨h1, h2⟩ := tot_take l i hi
  rw [← hs] at h1
  have htk : l.take (i + 1) = l.take i ++ [s] := by
    rw [List.take_add_one]
    have : l[i]? = some s := by
      rw [hs]; simp [rdOf, List.getD_eq_getElem?_getD, List.getElem?_eq_getElem hi]
    rw [this]; rfl
  have hl : (0 :: textB (l.take i)).length = 1 + tot (l.take i) := by simp [textB_length]; omega
  unfold rowB
  obtain ⟨q, hq⟩ : ∃ q, 1 + tot l - (1 + tot (l.take i)) = s.size + 1 + q := ⟨tot l - tot (l.take (i + 1)), by omega⟩
  have hq2 : 1 + tot l - (1 + tot (l.take (i + 1))) = q := by omega
  rw [hq, hq2, htk, textB_append, nums_append, List.take_left' (by rw [nums_length, hl]), ← List.drop_drop, List.drop_left' (by rw [nums_length, hl])]
  have e1 : List.replicate (s.size + 1 + q) (0 : Int) = List.replicate s.size 0 ++ ([0] ++ List.replicate q 0) := by
    rw [show s.size + 1 + q = s.size + (1 + q) by omega, ← List.replicate_append_replicate, ← List.replicate_append_replicate]; rfl
  rw [e1, nums_append, List.drop_left' (by rw [nums_length, List.length_replicate])]
  simp [nums, textB]
theorem rowO_next (l : List ByteArray) (i : Nat) (hi : i < l.length) (s : ByteArray) (hs : s = rdOf ByteArray.empty l (i : Int)) :
    (nums .i64 (rowO l i)).toArray.setIfInBounds i (.int .i64 ((1 + tot (l.take i) : Nat) : Int)) = (nums .i64 (rowO l (i + 1))).toArray := by
  have htk : l.take (i + 1) = l.take i ++ [s] := by
    rw [List.take_add_one]
    have : l[i]? = some s := by
      rw [hs]; simp [rdOf, List.getD_eq_getElem?_getD, List.getElem?_eq_getElem hi]
    rw [this]; rfl
  have hl : (offs 1 (l.take i)).length = i := by rw [offs_length, List.length_take]; omega
  unfold rowO
  obtain ⟨q, hq⟩ : ∃ q, l.length - i = 1 + q := ⟨l.length - i - 1, by omega⟩
  rw [hq, show l.length - (i + 1) = q by omega, htk, offs_append, List.setIfInBounds_toArray, ← List.replicate_append_replicate]
  congr 1
  rw [nums_append, nums_append, List.set_append_right _ _ (by rw [nums_length, hl]; exact Nat.le_refl _), nums_length, hl, Nat.sub_self]
  simp [nums, offs]
set_option maxHeartbeats 8000000 in
set_option maxRecDepth 100000 in
theorem strtab_Build.any (A0 : Option Addr) (c0 : Nat) (l0 : List ByteArray) (w : World) (hr0 : Kd.C Kd.string w A0 l0.length l0) (hc0 : l0.length ≤ c0) (hf : Few l0) :
    Calls Try.prog 11 #[.slice A0 l0.length c0] w (BuildPost w l0) := by
  have HR0 := Aside0.mk hr0
  have HC0 := Aside0.mk hc0
  have HF := Aside0.mk hf
  have hlen : l0.length ≤ 1073741824 := Nat.le_trans (tot_len l0) hf
  have htot : tot l0 ≤ 1073741824 := hf
  clear hr0 hc0 hf
  go_enter Try.func11, Try.ntmps11
  go_wp2
  go_loopw [5, 15] (fun v5 v15 wr => ∃ i : Nat, i ≤ l0.length ∧ v15 = .int .i64 i ∧ v5 = .int .i64 ((1 + tot (l0.take i) : Nat) : Int) ∧ Aside0 (∀ s ∈ l0.take i, badS s = false) ∧ w = wr) (fun _ v15 _ => l0.length - (intOf v15).toNat)
  case atStart => exact ⟨0, Nat.zero_le _, rfl, by simp [tot], ⟨fun s hs => by simp at hs⟩, rfl⟩
  case round =>
    obtain ⟨i, hi, rfl, rfl, HG, rfl⟩ := hrel
    by_cases hlt : i < l0.length
    · obtain ⟨ad, e, hx⟩ := Kd.at_string HR0.out (i : Int) (by omega) (by omega)
      cases e
      rw [Int.toNat_natCast] at hx
      obtain ⟨s, hs⟩ : ∃ s, s = rdOf ByteArray.empty l0 (i : Int) := ⟨_, rfl⟩
      rw [← hs] at hx
      have HS := Aside0.mk hs
      obtain ⟨ht1, ht2⟩ := tot_take l0 i hlt
      rw [← hs] at ht1
      clear hs
      have hmem : Aside0 (s ∈ l0) := ⟨by rw [HS.out]; simp [rdOf, List.getD_eq_getElem?_getD, List.getElem?_eq_getElem hlt]⟩
      go_wp2_with (go_at_call 22; (with_reducible refine (Try.strings_IndexByte _ _ _).mono ?_); rintro e w1 ⟨rfl, rfl⟩)
      · have hw : s.toList = [] := by assumption
        go_ret3
        exact BuildPost.no (Below.refl _ _) (List.any_eq_true.2 ⟨s, hmem.out, by unfold badS; simp [hw]⟩)
      · have hn : ¬ s.toList = [] := by assumption
        have hw : s.toList.isEmpty = true ∨ 0 ≤ Lib.indexByte s.data.toList 0 := by assumption
        have hw2 : 0 ≤ Lib.indexByte s.data.toList 0 := by
          rcases hw with h | h
          · exact absurd (List.isEmpty_iff.1 h) hn
          · exact h
        go_ret3
        exact BuildPost.no (Below.refl _ _) (List.any_eq_true.2 ⟨s, hmem.out, by unfold badS; simp [hw2]⟩)
      · have hn : ¬ s.toList = [] := by assumption
        have hw : s.toList.isEmpty = false ∧ Lib.indexByte s.data.toList 0 < 0 := by assumption
        refine ⟨⟨i + 1, by omega, by go_num, ?_, ⟨?_⟩, trivial⟩, ?_⟩
        · congr 1; omega
        · intro x hx2
          rw [List.take_add_one, List.getElem?_eq_getElem hlt] at hx2
          rcases List.mem_append.1 hx2 with h | h
          · exact HG.out x h
          · have e : x = s := by rw [HS.out]; simpa [rdOf, List.getD_eq_getElem?_getD, List.getElem?_eq_getElem hlt] using h
            rw [e]; unfold badS
            rw [decide_eq_false hn, decide_eq_false (show ¬ 0 ≤ Lib.indexByte s.data.toList 0 by omega)]; rfl
        · (simp [intOf]; omega)
    · obtain rfl : i = l0.length := by omega
      have hall : l0.any badS = false := by
        rw [List.take_length] at HG
        exact List.any_eq_false.2 fun s hs => by rw [HG.out s hs]; decide
      have HALL := Aside0.mk hall
      have e1 : 1 + tot (l0.take l0.length) = 1 + tot l0 := by rw [List.take_length]
      rw [e1]
      clear HG hall e1
      obtain ⟨m, hm⟩ : ∃ m, m = 1 + tot l0 := ⟨_, rfl⟩
      rw [← hm]
      have HM := Aside0.mk hm
      have hmb : m ≤ 1073741825 := by omega
      clear hm htot
      have hmk8 := print_make (P := Try.prog) 25 5 .u8 1 Try.underlying25 info5 (by decide) m (by omega)
      have hmk9 := print_make (P := Try.prog) 26 3 .i64 8 Try.underlying26 info3 (by decide) l0.length (by omega)
      go_upto_region 9 with (fail)
      go_cut [8, 9] (fun v8 v9 wc => ∃ g8 g9, v8 = .slice (some ⟨g8, 0, none⟩) m m ∧ v9 = .slice (some ⟨g9, 0, none⟩) l0.length l0.length ∧ Aside0 (g8 ≠ g9) ∧ Aside0 (w.heap.size ≤ g8 ∧ w.heap.size ≤ g9) ∧ Aside0 (wc.heap[g8]? = some (.cells (nums .u8 (List.replicate m 0)).toArray 5 (0, 0))) ∧ Aside0 (wc.heap[g9]? = some (.cells (nums .i64 (List.replicate l0.length 0)).toArray 3 (0, 0))) ∧ Aside0 (Below w.heap.size w wc))
      case first =>
        go_region
        all_goals (go_wp2_with fail)
        all_goals go_meet
        all_goals first
          | exact ⟨w.heap.size, w.heap.size + 1, rfl, rfl, ⟨by omega⟩, ⟨⟨by omega, by omega⟩⟩, ⟨made_old w .u8 .i64 5 3 m l0.length⟩, ⟨made_two w _ .i64 3 l0.length⟩, ⟨below_drew (below_alloc (below_alloc (Below.refl _ _) _) _)⟩⟩
          | exact ⟨w.heap.size + 1, w.heap.size, rfl, rfl, ⟨by omega⟩, ⟨⟨by omega, by omega⟩⟩, ⟨made_two w _ .u8 5 m⟩, ⟨made_old w .i64 .u8 3 5 l0.length m⟩, ⟨below_drew (below_alloc (below_alloc (Below.refl _ _) _) _)⟩⟩
      case rest =>
        obtain ⟨g8, g9, rfl, rfl, HNE, HGE, HG8, HG9, HB⟩ := hcut
        clear hmk8 hmk9
        go_wp2
        go_loopw [10, 39] (fun v10 v39 wr => ∃ i : Nat, i ≤ l0.length ∧ v39 = .int .i64 i ∧ v10 = .int .i64 ((1 + tot (l0.take i) : Nat) : Int) ∧ Aside0 (wr.heap[g8]? = some (.cells (nums .u8 (rowB l0 m i)).toArray 5 (0, 0))) ∧ Aside0 (wr.heap[g9]? = some (.cells (nums .i64 (rowO l0 i)).toArray 3 (0, 0))) ∧ Aside0 (Below w.heap.size w wr)) (fun _ v39 _ => l0.length - (intOf v39).toNat)
        case atStart =>
          refine ⟨0, Nat.zero_le _, rfl, by simp [tot], ⟨?_⟩, ⟨?_⟩, ⟨?_⟩⟩
          · have e : rowB l0 m 0 = List.replicate m 0 := by
              obtain ⟨q, rfl⟩ : ∃ q, m = q + 1 := ⟨m - 1, by have := HM.out; omega⟩
              unfold rowB; simp [tot, textB, List.replicate_succ]
            rw [e]; exact HG8.out
          · have e : rowO l0 0 = List.replicate l0.length 0 := by unfold rowO; simp [offs]
            rw [e]; exact HG9.out
          · exact HB.out
        case round =>
          obtain ⟨i, hi, rfl, rfl, HR8, HR9, HB2⟩ := hrel
          by_cases hlt : i < l0.length
          · obtain ⟨ad, e, hx⟩ := Kd.at_string HR0.out (i : Int) (by omega) (by omega)
            cases e
            rw [Int.toNat_natCast] at hx
            replace hx := (HB2.out.cell (World.block_lt_of_cell? w _ hx)).trans hx
            obtain ⟨s, hs⟩ : ∃ s, s = rdOf ByteArray.empty l0 (i : Int) := ⟨_, rfl⟩
            rw [← hs] at hx
            obtain ⟨ht1, ht2⟩ := tot_take l0 i hlt
            rw [← hs] at ht1
            have hmm := HM.out
            have HN8 := Aside0.mk (rowB_next l0 i hlt s hs)
            have HN9 := Aside0.mk (rowO_next l0 i hlt s hs)
            rw [← hmm] at HN8
            have hcz : wr.cell? ⟨g9, i, none⟩ = some (.int .i64 0) := (blk_cell HR9.out i).trans (by
              have hl : (offs 1 (l0.take i)).length = i := by rw [offs_length, List.length_take]; omega
              unfold rowO nums
              simp [List.getElem?_append_right, hl, List.getElem?_replicate]; omega)
            have hfz := blk_frozen HR9.out i
            have hl8 : (nums .u8 (rowB l0 m i)).length = m := by rw [nums_length]; unfold rowB; simp [textB_length]; omega
            have HL8 := Aside0.mk hl8
            have HGE1 := Aside0.mk HGE.out.1
            have hne : ¬ m = 1 + tot (l0.take i) := by omega
            have HLE := Aside0.mk (show s.size ≤ m - (1 + tot (l0.take i)) by omega)
            have HFIT := Aside0.mk (show 1 + tot (l0.take i) + s.size ≤ m by omega)
            have hub : 1 + tot (l0.take i) + s.size + 1 ≤ 1073741826 := by omega
            have hub2 : 1 + tot (l0.take i) ≤ m := by omega
            clear hs hl8 hmm
            go_wp2_with ((with_reducible refine gate_builtin (b := .copy) (xs := #[.tmp 51, .tmp 52]) rfl ?_); refine wpList_copy_str rfl (.tmp 51) (.tmp 52) 25 9 rfl 5 Try.underlying25 info5s g8 (1 + tot (l0.take i)) (m - (1 + tot (l0.take i))) (m - (1 + tot (l0.take i))) s rfl rfl (nums .u8 (rowB l0 m i)) 5 ?hg ?hle ?hfit ?_; (case hg => exact (Below.heap_setCell _ _ _ _ (by simpa using HNE.out)).trans HR8.out); (case hle => exact HLE.out); (case hfit => (rw [HL8.out]; exact HFIT.out)); intro w3 hg3 hgr3; have HG3 := Aside0.mk hg3.out; have HGR3 := Aside0.mk hgr3; clear hg3 hgr3)
            go_roundw
            case rel =>
              refine ⟨i + 1, by omega, by go_num, ?_, ⟨?_⟩, ⟨?_⟩, ⟨?_⟩⟩
              · congr 1; omega
              · rw [← HN8.out]; exact HG3.out
              · rw [← HN9.out]; exact (HGR3.out.block _ (by have := lt_of_blk HR9.out; simpa [World.setCell] using this) (fun e => HNE.out (by cases e; rfl))).trans (blk_set HR9.out i _)
              · exact (below_set HB2.out HGE.out.2).grown HGR3.out (Nat.le_trans HB2.out.size (by simp [World.setCell])) (fun _ e_ => by cases e_; exact HGE1.out)
            case measure => simp [intOf]; omega
          · obtain rfl : i = l0.length := by omega
            go_wp2
            go_ret3
            have e : resB l0 = (tableB l0, offs 1 l0, 0) := by unfold resB; rw [if_neg (by rw [HALL.out]; decide)]
            have hmm := HM.out
            have e8 : rowB l0 m l0.length = tableB l0 := by unfold rowB tableB; rw [List.take_length, hmm]; simp
            have e9 : rowO l0 l0.length = offs 1 l0 := by unfold rowO; rw [List.take_length]; simp
            have h8 := HR8.out
            have h9 := HR9.out
            rw [e8] at h8; rw [e9] at h9
            refine ⟨.slice (some ⟨g8, 0, none⟩) m m, .slice (some ⟨g9, 0, none⟩) l0.length l0.length, by rw [e]; rfl, ?_, ?_, HB2.out⟩
            · rw [e]; exact own_row h8 HGE.out.1 (by simp [tableB, textB_length]; omega) (by unfold maxLen; omega)
            · rw [e]; exact own_row h9 HGE.out.2 (offs_length _ _) (by unfold maxLen; omega)
theorem strtab_Build.calls (A0 : Option Addr) (c0 : Nat) (l0 : List ByteArray) (r1 r2 : List Int) (r3 : Int) (w : World) (hr0 : Kd.C Kd.string w A0 l0.length l0) (hc0 : l0.length ≤ c0) (h : strtab_Build.f l0 = some (r1, r2, r3)) :
    Calls Try.prog 11 #[.slice A0 l0.length c0] w fun e w' => ∃ v0_ v1_ : Value, e = .returned (.tuple #[v0_, v1_, .int .i64 r3]) ∧ Kd.R (Kd.int .u8) 5 w' w.heap.size (fun _ => True) v0_ r1 ∧ Kd.R (Kd.int .i64) 3 w' w.heap.size (fun _ => True) v1_ r2 ∧ Below w.heap.size w w' := by
  unfold strtab_Build.f at h
  split at h
  · rename_i hf
    have e : resB l0 = (r1, r2, r3) := Option.some.inj h
    refine (strtab_Build.any A0 c0 l0 w hr0 hc0 hf).mono fun e' w' hp => ?_
    unfold BuildPost at hp
    rw [e] at hp
    exact hp
  · cases h

end Go.Proofs.Ytbepheikefkaiaa.PAll
