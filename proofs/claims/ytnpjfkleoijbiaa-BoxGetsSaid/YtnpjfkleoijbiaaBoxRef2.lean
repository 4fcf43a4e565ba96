/- Plain facts: the reference's numbers, padding, writing, numbers read, and equality of the chapter 15. -/
import Derived.Test.YtnpjfkleoijbiaaBoxRef
namespace Go.Proofs.Ytnpjfkleoijbiaa.PAll
open Go.RowKit Go.Proofs.YtnpjfkleoijbiaaW.PrintWords Go.Proofs.YtnpjfkleoijbiaaW.PrintLast Go.Proofs.YtnpjfkleoijbiaaW.PrintMore

theorem number_f (k : Nat) (out : List Int) (x : Int) (n : Nat) (hn : n ≤ 8) (hk : n < k) (h0 : 0 ≤ x) (h1 : x < 9223372036854775808) (hl : out.length + n < 140737488355328) :
    slotcoderef15_number.f k out x (n : Int) = some (out ++ le n x) := by
  unfold slotcoderef15_number.f
  exact number_l0 n hn n 0 k x out (by omega) hk h0 h1 hl
theorem pad_l0 : ∀ (d k : Nat) (out : List Int), upN out.length - out.length = d → d < k → out.length + d < 140737488355328 →
    slotcoderef15_pad.l0 k out = some (out ++ List.replicate d 0) := by
  intro d
  induction d with
  | zero =>
    intro k out hd hk hl
    obtain ⟨k, rfl⟩ : ∃ m, k = m + 1 := ⟨k - 1, by omega⟩
    have := upN_ge out.length
    simp only [slotcoderef15_pad.l0]; rw [if_pos (by omega)]; simp
  | succ d ih =>
    intro k out hd hk hl
    obtain ⟨k, rfl⟩ : ∃ m, k = m + 1 := ⟨k - 1, by omega⟩
    have := upN_ge out.length
    have e : (out ++ [(0 : Int)]).length = out.length + 1 := by simp
    simp only [slotcoderef15_pad.l0]; rw [if_neg (by omega), if_pos (by omega), ih k _ (by rw [e]; unfold upN at *; omega) (by omega) (by rw [e]; omega)]
    simp [List.replicate_succ]
theorem pad_f (k : Nat) (out : List Int) (hk : 8 < k) (hl : out.length < 140737488355000) :
    slotcoderef15_pad.f k out = some (out ++ List.replicate (upN out.length - out.length) 0) := by
  unfold slotcoderef15_pad.f
  have := upN_ge out.length
  exact pad_l0 _ k out rfl (by omega) (by omega)

theorem rwrite_l1 (l : List S46) (hl : l.length ≤ 16) (t : List S46) : ∀ (i k : Nat) (acc : List Int), l.drop i = t → t.length + 10 < k → i ≤ l.length → acc.length % 8 = 0 → acc.length + datas (t.map c50) ≤ 4294967296 →
    slotcoderef15_Write.l1 k l acc (i : Int) = some (acc ++ bodyB (t.map c50)) := by
  induction t with
  | nil =>
    intro i k acc ht hk hi ha hs
    obtain ⟨k, rfl⟩ : ∃ m, k = m + 1 := ⟨k - 1, by omega⟩
    have : l.length ≤ i := List.drop_eq_nil_iff.mp ht
    simp only [slotcoderef15_Write.l1]; rw [if_neg (by omega)]; simp [bodyB]
  | cons s r ih =>
    intro i k acc ht hk hi ha hs
    obtain ⟨k, rfl⟩ : ∃ m, k = m + 1 := ⟨k - 1, by omega⟩
    obtain ⟨hd, hlt, hl2⟩ := drop_next ht
    simp only [List.length_cons] at hk
    simp only [List.map_cons, datas, show (c50 s).f1 = s.f1 from rfl] at hs
    have hu := upN_ge s.f1.length
    have e : (acc ++ s.f1).length = acc.length + s.f1.length := by simp
    have e2 : upN (acc ++ s.f1).length - (acc ++ s.f1).length = upN s.f1.length - s.f1.length := by rw [e]; unfold upN at *; omega
    simp only [slotcoderef15_Write.l1]; rw [if_pos (by omega), if_pos (by omega), rdT46_at l i s r ht, if_pos (by omega), pad_f k _ (by omega) (by omega)]
    simp only [Option.bind_some]
    rw [e2, w64 _ (by omega) (by omega), show (i : Int) + 1 = ((i + 1 : Nat) : Int) by omega, ih (i + 1) k _ hd (by omega) (by omega) (by simp; omega) (by simp; omega)]
    simp [bodyB, show (c50 s).f1 = s.f1 from rfl]
theorem rwrite_l0 (l : List S46) (hl : l.length ≤ 16) (hkk : ∀ s ∈ l, 0 ≤ s.f0 ∧ s.f0 ≤ 65535) (t : List S46) : ∀ (i k at_ : Nat) (acc : List Int), l.drop i = t → t.length + l.length + 20 < k → i ≤ l.length → acc.length + 12 * t.length + 8 + datas (l.map c50) ≤ 4294967296 → at_ + datas (t.map c50) ≤ 4294967296 →
    slotcoderef15_Write.l0 k l acc (at_ : Int) (i : Int) = some (acc ++ rowsB at_ (t.map c50) ++ List.replicate (upN (acc.length + 12 * t.length) - (acc.length + 12 * t.length)) 0 ++ bodyB (l.map c50)) := by
  induction t with
  | nil =>
    intro i k at_ acc ht hk hi ha hs
    obtain ⟨k, rfl⟩ : ∃ m, k = m + 1 := ⟨k - 1, by omega⟩
    have : l.length ≤ i := List.drop_eq_nil_iff.mp ht
    simp only [List.length_nil] at ha hk
    have hu := upN_ge acc.length
    simp only [slotcoderef15_Write.l0]; rw [if_neg (by omega), pad_f k _ (by omega) (by omega)]
    simp only [Option.bind_some]
    have h := rwrite_l1 l hl l 0 k (acc ++ List.replicate (upN acc.length - acc.length) 0) rfl (by omega) (Nat.zero_le _) (by simp; omega) (by simp; omega)
    have h2 : slotcoderef15_Write.l1 k l (acc ++ List.replicate (upN acc.length - acc.length) 0) 0 = _ := h
    rw [h2]; simp [rowsB]
  | cons s r ih =>
    intro i k at_ acc ht hk hi ha hs
    obtain ⟨k, rfl⟩ : ∃ m, k = m + 1 := ⟨k - 1, by omega⟩
    obtain ⟨hd, hlt, hl2⟩ := drop_next ht
    simp only [List.length_cons] at hk ha
    simp only [List.map_cons, datas, show (c50 s).f1 = s.f1 from rfl] at hs
    have hu := upN_ge s.f1.length
    obtain ⟨hk0, hk1⟩ := hkk s (List.mem_of_mem_drop (i := i) (by rw [ht]; simp))
    simp only [slotcoderef15_Write.l0]; rw [if_pos (by omega), if_pos (by omega), rdT46_at l i s r ht]
    rw [show (4 : Int) = ((4 : Nat) : Int) from rfl, number_f k acc s.f0 4 (by omega) (by omega) hk0 (by omega) (by omega)]
    simp only [Option.bind_some]
    rw [number_f k _ (at_ : Int) 4 (by omega) (by omega) (by omega) (by omega) (by simp [le_length]; omega)]
    simp only [Option.bind_some]
    rw [number_f k _ (s.f1.length : Int) 4 (by omega) (by omega) (by omega) (by omega) (by simp [le_length]; omega)]
    simp only [Option.bind_some]
    rw [rup_f _ (by omega)]
    simp only [Option.bind_some]
    have hlen : (acc ++ le 4 s.f0 ++ le 4 (at_ : Int) ++ le 4 (s.f1.length : Int)).length = acc.length + 12 := by simp [le_length]
    rw [w64 _ (by omega) (by omega), w64 _ (by omega) (by omega), show (i : Int) + 1 = ((i + 1 : Nat) : Int) by omega, show (at_ : Int) + (upN s.f1.length : Nat) = ((at_ + upN s.f1.length : Nat) : Int) by omega,
      ih (i + 1) k (at_ + upN s.f1.length) _ hd (by omega) (by omega) (by rw [hlen]; omega) (by omega), hlen]
    have e : acc.length + 12 + 12 * r.length = acc.length + 12 * (r.length + 1) := by omega
    rw [e]
    simp [rowsB, show (c50 s).f1 = s.f1 from rfl, show (c50 s).f0 = s.f0 from rfl]
theorem kindsOk_mem (l : List S50) : ∀ last, kindsOk last l = true → ∀ s ∈ l, last < s.f0 ∧ s.f0 ≤ 65535 := by
  induction l with
  | nil => intro last _ s hs; cases hs
  | cons x r ih =>
    intro last h s hs
    simp only [kindsOk, Bool.and_eq_true, decide_eq_true_eq] at h
    rcases List.mem_cons.1 hs with rfl | hs
    · exact ⟨h.1.1, h.1.2⟩
    · have := ih _ h.2 s hs; omega
theorem wcheck0 {l : List S50} (h : wcheck l = 0) : l.length ≤ 16 ∧ wsize l ≤ 1073741824 ∧ kindsOk 0 l = true := by
  unfold wcheck at h
  split at h
  · omega
  · split at h
    · refine ⟨by omega, by omega, by assumption⟩
    · omega
theorem datas_mem (l : List S50) : ∀ s ∈ l, s.f1.length ≤ datas l := by
  induction l with
  | nil => intro s hs; cases hs
  | cons x r ih =>
    intro s hs
    have := upN_ge x.f1.length
    rcases List.mem_cons.1 hs with rfl | hs
    · simp only [datas]; omega
    · have := ih s hs; simp only [datas]; omega
theorem wcheck0_sane {l : List S50} (h : wcheck l = 0) : Sane l := by
  obtain ⟨h1, h2, _⟩ := wcheck0 h
  refine ⟨by omega, fun s hs => ?_⟩
  have := datas_mem l s hs
  unfold wsize at h2; omega
theorem rwrite_f (l : List S46) (hz : wcheck (l.map c50) = 0) (k : Nat) (hk : 2 * l.length + 30 < k) : slotcoderef15_Write.f k l = some (wbytes (l.map c50)) := by
  obtain ⟨h1, h2, h3⟩ := wcheck0 hz
  have hs := wcheck0_sane hz
  rw [List.length_map] at h1
  have hkk : ∀ s ∈ l, 0 ≤ s.f0 ∧ s.f0 ≤ 65535 := fun s hs => by
    have := kindsOk_mem _ _ h3 (c50 s) (List.mem_map_of_mem hs)
    have e : (c50 s).f0 = s.f0 := rfl
    omega
  have hu := upN_ge (16 + 12 * l.length)
  have hws : wsize (l.map c50) = upN (16 + 12 * l.length) + datas (l.map c50) := by simp [wsize, headN]
  unfold slotcoderef15_Write.f
  rw [show (2 : Int) = ((2 : Nat) : Int) from rfl, number_f k _ 1 2 (by omega) (by omega) (by omega) (by omega) (by simp)]
  simp only [Option.bind_some]
  rw [number_f k _ (l.length : Int) 2 (by omega) (by omega) (by omega) (by omega) (by simp [le_length])]
  simp only [Option.bind_some]
  rw [rsize_f l hs k (by omega)]
  simp only [Option.bind_some]
  rw [show (4 : Int) = ((4 : Nat) : Int) from rfl, number_f k _ ((wsize (l.map c50) : Nat) : Int) 4 (by omega) (by omega) (by omega) (by omega) (by simp [le_length])]
  simp only [Option.bind_some]
  rw [number_f k _ 0 4 (by omega) (by omega) (by omega) (by omega) (by simp [le_length])]
  simp only [Option.bind_some]
  rw [w64 (12 * (l.length : Int)) (by omega) (by omega), w64 _ (by omega) (by omega), show (16 : Int) + 12 * (l.length : Int) = ((16 + 12 * l.length : Nat) : Int) by omega, rup_f _ (by omega)]
  simp only [Option.bind_some]
  have h := rwrite_l0 l h1 hkk l 0 k (upN (16 + 12 * l.length)) (hdrB l.length (wsize (l.map c50))) rfl (by omega) (Nat.zero_le _) (by rw [hdrB_length]; omega) (by omega)
  have e0 : le 4 0 = List.replicate 4 0 := by decide
  have e1 : [83, 76, 67, 49] ++ le 2 1 ++ le 2 (l.length : Int) ++ le 4 ((wsize (l.map c50) : Nat) : Int) ++ le 4 0 = hdrB l.length (wsize (l.map c50)) := by rw [e0]; rfl
  rw [e1]
  have h' : slotcoderef15_Write.l0 k l (hdrB l.length (wsize (l.map c50))) ((upN (16 + 12 * l.length) : Nat) : Int) 0 = _ := h
  rw [h', hdrB_length]
  simp [wbytes, headN]

theorem rd_drop (l : List Int) (a i : Nat) : rd l ((a + i : Nat) : Int) = (l.drop a).getD i 0 := by
  unfold rd; rw [Int.toNat_natCast]; simp [List.getD_eq_getElem?_getD, List.getElem?_drop]
theorem u64w (x : Int) (h0 : 0 ≤ x) (h1 : x < 18446744073709551616) : IntKind.u64.wrap x = x := by show x % 18446744073709551616 = x; omega
theorem get4 (k : Nat) (l : List Int) (a : Nat) (hb : Bytes l) (ha : a + 4 ≤ l.length) (hl : l.length ≤ 1048576) (hk : 5 < k) : slotcoderef05_Get.f k l (a : Int) 4 = some (numL l a 4) := by
  obtain ⟨k, rfl⟩ : ∃ m, k = m + 5 := ⟨k - 5, by omega⟩
  have e3 : (a : Int) + 3 = ((a + 3 : Nat) : Int) := by omega
  have e2 : (a : Int) + 2 = ((a + 2 : Nat) : Int) := by omega
  have e1 : (a : Int) + 1 = ((a + 1 : Nat) : Int) := by omega
  have e0 : (a : Int) + 0 = ((a + 0 : Nat) : Int) := by omega
  have hn : numL l a 4 = leV (((l.drop a).take 4)) := by
    unfold numL partL inR
    rw [if_pos (by simpa using ha), List.drop_take]; congr 2; omega
  have hlen : (l.drop a).length = l.length - a := List.length_drop
  have hbd : ∀ x ∈ l.drop a, 0 ≤ x ∧ x < 256 := fun x hx => hb x (List.mem_of_mem_drop hx)
  obtain ⟨x0, x1, x2, x3, r, he⟩ : ∃ x0 x1 x2 x3 r, l.drop a = x0 :: x1 :: x2 :: x3 :: r := by
    match h : l.drop a, hlen with
    | x0 :: x1 :: x2 :: x3 :: r, _ => exact ⟨x0, x1, x2, x3, r, rfl⟩
    | [], h' => simp at h'; omega
    | [_], h' => simp at h'; omega
    | [_, _], h' => simp at h'; omega
    | [_, _, _], h' => simp at h'; omega
  have b0 := hbd x0 (by simp [he])
  have b1 := hbd x1 (by simp [he])
  have b2 := hbd x2 (by simp [he])
  have b3 := hbd x3 (by simp [he])
  have r0 : rd l ((a + 0 : Nat) : Int) = x0 := by rw [rd_drop, he]; rfl
  have r1 : rd l ((a + 1 : Nat) : Int) = x1 := by rw [rd_drop, he]; rfl
  have r2 : rd l ((a + 2 : Nat) : Int) = x2 := by rw [rd_drop, he]; rfl
  have r3 : rd l ((a + 3 : Nat) : Int) = x3 := by rw [rd_drop, he]; rfl
  unfold slotcoderef05_Get.f
  rw [show wrap64 (4 - 1) = 3 by (rw [w64 _ (by decide) (by decide)]; rfl)]
  simp only [slotcoderef05_Get.l0]
  rw [if_pos (by decide), w64 ((a : Int) + 3) (by omega) (by omega), if_pos (by omega), if_pos (by omega), e3, r3,
    show wrap64 (3 - 1) = 2 by (rw [w64 _ (by decide) (by decide)]; rfl), if_pos (by decide), w64 ((a : Int) + 2) (by omega) (by omega), if_pos (by omega), if_pos (by omega), e2, r2,
    show wrap64 (2 - 1) = 1 by (rw [w64 _ (by decide) (by decide)]; rfl), if_pos (by decide), w64 ((a : Int) + 1) (by omega) (by omega), if_pos (by omega), if_pos (by omega), e1, r1,
    show wrap64 (1 - 1) = 0 by (rw [w64 _ (by decide) (by decide)]; rfl), if_pos (by decide), w64 ((a : Int) + 0) (by omega) (by omega), if_pos (by omega), if_pos (by omega), e0, r0,
    show wrap64 (0 - 1) = -1 by (rw [w64 _ (by decide) (by decide)]; rfl), if_neg (by decide)]
  rw [hn, he]
  simp only [List.take_succ_cons, List.take_zero, leV]
  have z0 : IntKind.u64.wrap (0 * 256) = 0 := u64w _ (by decide) (by decide)
  rw [z0, u64w x3 (by omega) (by omega), Int.zero_add, u64w x3 (by omega) (by omega), u64w (x3 * 256) (by omega) (by omega), u64w x2 (by omega) (by omega), u64w (x3 * 256 + x2) (by omega) (by omega),
    u64w ((x3 * 256 + x2) * 256) (by omega) (by omega), u64w x1 (by omega) (by omega), u64w ((x3 * 256 + x2) * 256 + x1) (by omega) (by omega),
    u64w (((x3 * 256 + x2) * 256 + x1) * 256) (by omega) (by omega), u64w x0 (by omega) (by omega), u64w _ (by omega) (by omega)]
  congr 1; omega
theorem get2 (k : Nat) (l : List Int) (a : Nat) (hb : Bytes l) (ha : a + 2 ≤ l.length) (hl : l.length ≤ 1048576) (hk : 5 < k) : slotcoderef05_Get.f k l (a : Int) 2 = some (numL l a 2) := by
  obtain ⟨k, rfl⟩ : ∃ m, k = m + 5 := ⟨k - 5, by omega⟩
  have e1 : (a : Int) + 1 = ((a + 1 : Nat) : Int) := by omega
  have e0 : (a : Int) + 0 = ((a + 0 : Nat) : Int) := by omega
  have hn : numL l a 2 = leV (((l.drop a).take 2)) := by
    unfold numL partL inR
    rw [if_pos (by simpa using ha), List.drop_take]; congr 2; omega
  have hlen : (l.drop a).length = l.length - a := List.length_drop
  have hbd : ∀ x ∈ l.drop a, 0 ≤ x ∧ x < 256 := fun x hx => hb x (List.mem_of_mem_drop hx)
  obtain ⟨x0, x1, r, he⟩ : ∃ x0 x1 r, l.drop a = x0 :: x1 :: r := by
    match h : l.drop a, hlen with
    | x0 :: x1 :: r, _ => exact ⟨x0, x1, r, rfl⟩
    | [], h' => simp at h'; omega
    | [_], h' => simp at h'; omega
  have b0 := hbd x0 (by simp [he])
  have b1 := hbd x1 (by simp [he])
  have r0 : rd l ((a + 0 : Nat) : Int) = x0 := by rw [rd_drop, he]; rfl
  have r1 : rd l ((a + 1 : Nat) : Int) = x1 := by rw [rd_drop, he]; rfl
  unfold slotcoderef05_Get.f
  rw [show wrap64 (2 - 1) = 1 by (rw [w64 _ (by decide) (by decide)]; rfl)]
  simp only [slotcoderef05_Get.l0]
  rw [if_pos (by decide), w64 ((a : Int) + 1) (by omega) (by omega), if_pos (by omega), if_pos (by omega), e1, r1,
    show wrap64 (1 - 1) = 0 by (rw [w64 _ (by decide) (by decide)]; rfl), if_pos (by decide), w64 ((a : Int) + 0) (by omega) (by omega), if_pos (by omega), if_pos (by omega), e0, r0,
    show wrap64 (0 - 1) = -1 by (rw [w64 _ (by decide) (by decide)]; rfl), if_neg (by decide)]
  rw [hn, he]
  simp only [List.take_succ_cons, List.take_zero, leV]
  have z0 : IntKind.u64.wrap (0 * 256) = 0 := u64w _ (by decide) (by decide)
  rw [z0, u64w x1 (by omega) (by omega), Int.zero_add, u64w x1 (by omega) (by omega), u64w (x1 * 256) (by omega) (by omega), u64w x0 (by omega) (by omega), u64w _ (by omega) (by omega)]
  congr 1; omega

theorem rd_at (l : List Int) (i : Nat) (s : Int) (r : List Int) (h : l.drop i = s :: r) : rd l (i : Int) = s := by
  have : l[i]? = some s := by rw [← List.head?_drop, h]; rfl
  simp [rd, List.getD_eq_getElem?_getD, this]
theorem same_l0 (a b : List Int) (hl : a.length = b.length) (hm : a.length ≤ 1099511627776) (t : List Int) : ∀ (i k : Nat), a.drop i = t → t.length < k → i ≤ a.length →
    slotcoderef01_Same.l0 k a b (i : Int) = some (decide (t = b.drop i)) := by
  induction t with
  | nil =>
    intro i k ht hk hi
    obtain ⟨k, rfl⟩ : ∃ m, k = m + 1 := ⟨k - 1, by omega⟩
    have : a.length ≤ i := List.drop_eq_nil_iff.mp ht
    simp only [slotcoderef01_Same.l0]; rw [if_neg (by omega)]
    have hbn : b.drop i = [] := List.drop_eq_nil_iff.mpr (by omega)
    rw [hbn]; simp
  | cons s r ih =>
    intro i k ht hk hi
    obtain ⟨k, rfl⟩ : ∃ m, k = m + 1 := ⟨k - 1, by omega⟩
    obtain ⟨hd, hlt, hl2⟩ := drop_next ht
    obtain ⟨q, r2, hq⟩ : ∃ q r2, b.drop i = q :: r2 := by
      cases h : b.drop i with
      | nil => have := List.drop_eq_nil_iff.mp h; omega
      | cons q r2 => exact ⟨q, r2, rfl⟩
    obtain ⟨hd2, _, _⟩ := drop_next hq
    simp only [List.length_cons] at hk
    simp only [slotcoderef01_Same.l0]; rw [if_pos (by omega), if_pos (by omega), if_pos (by omega), rd_at a i s r ht, rd_at b i q r2 hq]
    by_cases c : s = q
    · rw [if_pos c, w64 _ (by omega) (by omega), show (i : Int) + 1 = ((i + 1 : Nat) : Int) by omega, ih (i + 1) k hd (by omega) (by omega), hd2, hq]
      simp [c]
    · rw [if_neg c, hq]; simp [c]
theorem same_f (a b : List Int) (hm : a.length ≤ 1099511627776) (k : Nat) (hk : a.length < k) : slotcoderef01_Same.f k a b = some (decide (a = b)) := by
  unfold slotcoderef01_Same.f
  by_cases c : a.length = b.length
  · rw [if_pos (by omega)]
    have := same_l0 a b c hm a 0 k rfl hk (Nat.zero_le _)
    simpa using this
  · rw [if_neg (by omega)]
    have : a ≠ b := fun h => c (by rw [h])
    simp [this]
instance : DecidableEq S46 := fun a b => decidable_of_iff (a.f0 = b.f0 ∧ a.f1 = b.f1) (by cases a; cases b; simp)
theorem same15_l0 (a b : List S46) (hl : a.length = b.length) (hm : a.length ≤ 1048576) (hd : ∀ s ∈ a, s.f1.length ≤ 1099511627776) (K : Nat) (hK : ∀ s ∈ a, s.f1.length < K) (t : List S46) : ∀ (i k : Nat), a.drop i = t → t.length + K < k → i ≤ a.length →
    slotcoderef15_Same.l0 k a b (i : Int) = some (decide (t = b.drop i)) := by
  induction t with
  | nil =>
    intro i k ht hk hi
    obtain ⟨k, rfl⟩ : ∃ m, k = m + 1 := ⟨k - 1, by omega⟩
    have : a.length ≤ i := List.drop_eq_nil_iff.mp ht
    simp only [slotcoderef15_Same.l0]; rw [if_neg (by omega)]
    have hbn : b.drop i = [] := List.drop_eq_nil_iff.mpr (by omega)
    rw [hbn]; simp
  | cons s r ih =>
    intro i k ht hk hi
    obtain ⟨k, rfl⟩ : ∃ m, k = m + 1 := ⟨k - 1, by omega⟩
    obtain ⟨hd1, hlt, hl2⟩ := drop_next ht
    have hmem : s ∈ a := List.mem_of_mem_drop (i := i) (by rw [ht]; simp)
    obtain ⟨q, r2, hq⟩ : ∃ q r2, b.drop i = q :: r2 := by
      cases h : b.drop i with
      | nil => have := List.drop_eq_nil_iff.mp h; omega
      | cons q r2 => exact ⟨q, r2, rfl⟩
    obtain ⟨hd2, _, _⟩ := drop_next hq
    simp only [List.length_cons] at hk
    have hKs := hK s hmem
    simp only [slotcoderef15_Same.l0]; rw [if_pos (by omega), if_pos (by omega), if_pos (by omega), rdT46_at a i s r ht, rdT46_at b i q r2 hq]
    by_cases c : s.f0 = q.f0
    · rw [if_pos c, same_f _ _ (hd s hmem) k (by omega)]
      simp only [Option.bind_some]
      by_cases c2 : s.f1 = q.f1
      · have e : s = q := by cases s; cases q; simp_all
        rw [if_pos (by simpa using c2), w64 _ (by omega) (by omega), show (i : Int) + 1 = ((i + 1 : Nat) : Int) by omega, ih (i + 1) k hd1 (by omega) (by omega), hd2, hq]
        simp [e]
      · have e : s ≠ q := fun h => c2 (by rw [h])
        rw [if_neg (by simpa using c2), hq]; simp [e]
    · have e : s ≠ q := fun h => c (by rw [h])
      rw [if_neg c, hq]; simp [e]
theorem same15_f (a b : List S46) (hm : a.length ≤ 1048576) (hd : ∀ s ∈ a, s.f1.length ≤ 1099511627776) (K : Nat) (hK : ∀ s ∈ a, s.f1.length < K) (k : Nat) (hk : a.length + K < k) : slotcoderef15_Same.f k a b = some (decide (a = b)) := by
  unfold slotcoderef15_Same.f
  by_cases c : a.length = b.length
  · rw [if_pos (by omega)]
    have := same15_l0 a b c hm hd K hK a 0 k rfl hk (Nat.zero_le _)
    simpa using this
  · rw [if_neg (by omega)]
    have : a ≠ b := fun h => c (by rw [h])
    simp [this]
end Go.Proofs.Ytnpjfkleoijbiaa.PAll
