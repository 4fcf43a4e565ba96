/- mem: Put, Len, number, Clone, Bytes. -/
import Derived.Test.YtlolhmocimaobaaMemW2
import Derived.Laws.CopyOwn
set_option linter.unusedVariables false
set_option linter.unusedSimpArgs false
namespace Go.Proofs.Ytlolhmocimaobaa.PAll
open Go.RowKit Go.Proofs.YtlolhmocimaobaaW.PrintWords Go.Proofs.YtlolhmocimaobaaW.PrintLast Go.Proofs.YtlolhmocimaobaaW.PrintMore
theorem neq_nil {P : Program} (w : World) (t e : TypeId) (a : Option Addr) (n c : Nat) (h : P.underlying t = some (.slice e)) : (binOp .neq t (.slice a n c) (.slice none 0 0)).run P w = .ok (.bool (!a.isNone)) w := by
  simp only [binOp]
  simp [Op.equal, Op.maxDepth, Lib.run_equalIn_slice_nil w 9999 t e a n c 0 0 h]
theorem take_splice {α : Type} (l cs : List α) (off n : Nat) (h : off + cs.length ≤ n) (hn : n ≤ l.length) : (splice l off cs).take n = splice (l.take n) off cs := by
  unfold splice
  have h1 : min off l.length = off := by omega
  rw [List.take_append, List.length_take, h1, List.take_append, List.take_of_length_le (show (l.take off).length ≤ n by rw [List.length_take]; omega), List.take_of_length_le (show cs.length ≤ n - off by omega), List.take_take, show min off n = off by omega]
  congr 2
  rw [List.drop_take, show n - off - cs.length = n - (off + cs.length) by omega]
theorem nums_splice (k : IntKind) (l cs : List Int) (off : Nat) : nums k (splice l off cs) = splice (nums k l) off (nums k cs) := by
  unfold splice nums
  simp [List.map_take, List.map_drop]
theorem two_blocks {X : World} {a b : Nat} {c1 c2 : Array Value} {t1 t2 : TypeId} {f1 f2 : Nat × Nat} (h1 : X.heap[a]? = some (.cells c1 t1 f1)) (h2 : X.heap[b]? = some (.cells c2 t2 f2)) (hne : t1 ≠ t2) : a ≠ b := by
  rintro rfl
  rw [h1] at h2
  cases h2
  exact hne rfl
theorem row_block {X : World} {B e n : Nat} {v : Value} {xs : List Value} (h : X.ownsRow B e 1 v n xs) {g : Nat} (hg : v.ownBlock = some g) : ∃ cur, X.heap[g]? = some (.cells cur e (0, 0)) := by
  rcases h.2 with ⟨rfl, _⟩ | ⟨g', cap, cur, rfl, _, hh, _⟩
  · simp [Value.ownBlock] at hg
  · obtain rfl : g' = g := by simpa [Value.ownBlock] using hg
    exact ⟨cur, hh⟩
/-- One region's bytes turn; all else stands. -/
theorem MemIn.turn {X X' : World} {B : Nat} {own : Nat → Prop} {m : Nat} {L : List Reg} {v : Value} {ps : List (Nat × Nat)} (h : MemIn X B own m L v ps) {k : Nat} {p : Nat × Nat} {r : Reg} (hp : ps[k]? = some p) (hr : L[k]? = some r) (data : List Int) (hlen : data.length = r.data.length)
    (hX : ∀ i, i < X.heap.size → i ≠ p.2 → X'.heap[i]? = X.heap[i]?)
    (hrow : ∀ cap, X.ownsRow B 5 1 (.slice (some ⟨p.2, 0, none⟩) r.data.length cap) r.data.length (nums .u8 r.data) → X'.ownsRow B 5 1 (.slice (some ⟨p.2, 0, none⟩) r.data.length cap) r.data.length (nums .u8 data)) :
    MemIn X' B own m (L.set k { r with data := data }) v ps := by
  have hreg := h.reg k p r hp hr
  obtain ⟨cap, hb, hro⟩ := hreg.lies
  obtain ⟨cur, hcur⟩ := row_block hro rfl
  have hlt : ∀ {i : Nat} {o : Obj}, X.heap[i]? = some o → i < X.heap.size := fun hh => (Array.getElem?_eq_some_iff.1 hh).1
  have hk : k < L.length := (List.getElem?_eq_some_iff.1 hr).1
  refine ⟨?_, h.om, h.bm, ?_, h.orow, by rw [List.length_set]; exact h.len, ?_, h.nd⟩
  · rw [hX m (hlt h.blk) (two_blocks h.blk hcur (by decide))]; exact h.blk
  · rw [List.length_set]
    refine row_keep h.row (fun g hg => ?_)
    obtain ⟨c2, hc2⟩ := row_block h.row hg
    exact hX g (hlt hc2) (two_blocks hc2 hcur (by decide))
  · intro i q s hq hs
    by_cases hik : i = k
    · subst hik
      rw [hp] at hq
      cases hq
      rw [List.getElem?_set_self hk] at hs
      cases hs
      refine ⟨hreg.o1, hreg.o2, hreg.b1, cap, ?_, ?_⟩
      · rw [hX p.1 (hlt hb) (two_blocks hb hcur (by decide)), hb]
        show _ = some (Obj.cells #[.int .u64 r.base, .slice (some ⟨p.2, 0, none⟩) data.length cap] _ _)
        rw [hlen]
      · have := hrow cap hro
        show X'.ownsRow B _ 1 (.slice (some ⟨p.2, 0, none⟩) data.length cap) data.length _
        rw [hlen]
        exact this
    · rw [List.getElem?_set_ne (by omega)] at hs
      have hg := h.reg i q s hq hs
      obtain ⟨cap2, hb2, hro2⟩ := hg.lies
      refine hg.keep (hX q.1 (hlt hb2) (two_blocks hb2 hcur (by decide))) (hX q.2 hg.lt.2 ?_)
      intro he
      have e1 : (ps.map (·.2))[i]? = some q.2 := by rw [List.getElem?_map, hq]; rfl
      have e2 : (ps.map (·.2))[k]? = some p.2 := by rw [List.getElem?_map, hp]; rfl
      have hil : i < (ps.map (·.2)).length := (List.getElem?_eq_some_iff.1 e1).1
      exact hik ((List.getElem?_inj hil h.nd).1 (by rw [e1, e2, he]))
/-- What Put leaves. -/
def putF (L : List Reg) (a : Int) (bs : List Int) : Option (List Reg) :=
  match L.findIdx? (hitR a bs.length) with
  | none => none
  | some k => match L[k]? with
    | none => none
    | some r => some (L.set k { r with data := splice r.data (a - r.base).toNat bs })
def PutPost (X : World) (B : Nat) (own : Nat → Prop) (m : Nat) (L : List Reg) (a : Int) (bs : List Int) (e : Ending) (X' : World) : Prop :=
  match putF L a bs with
  | none => e = .returned (.bool false) ∧ Below X.heap.size X X'
  | some L' => e = .returned (.bool true) ∧ MemAt X' B own m L' ∧ Out own X X'
set_option maxHeartbeats 4000000 in
set_option maxRecDepth 100000 in
theorem mem_Put (X : World) (B : Nat) (own : Nat → Prop) (m : Nat) (L : List Reg) (a : Int) (A0 : Option Addr) (c0 : Nat) (bs : List Int) (h : MemAt X B own m L) (hI : Inv L) (hl : L.length ≤ 1000000) (ha0 : 0 ≤ a) (ha1 : a < 18446744073709551616) (hr0 : Kd.C (Kd.int .u8) X A0 bs.length bs) (hbl : bs.length ≤ 4611686018427387904) :
    Calls Try.prog 20 #[.pointer (some ⟨m, 0, none⟩), .int .u64 a, .slice A0 bs.length c0] X (PutPost X B own m L a bs) := by
  obtain ⟨v, ps, hM⟩ := h
  have HM := Aside0.mk hM
  have HI := Aside0.mk hI
  have HR0 := Aside0.mk hr0
  have hA := Aside0.mk (mem_part X B own m L v ps a bs.length hM hI hl ha0 ha1 (by omega) (by omega))
  have heq := fun (W : World) (b : Option Addr) (n c : Nat) => neq_nil (P := Try.prog) W 32 5 b n c Try.underlying32
  clear hM hI hr0 ha0 ha1 hbl
  go_enter Try.func20, Try.ntmps20
  go_wp2_with fail
  refine hA.out.mono ?_
  intro e X' hp
  obtain ⟨hb, hp⟩ := hp
  have HB := Aside0.mk hb
  clear hb
  cases hf : L.findIdx? (hitR a bs.length) with
  | none =>
    rw [hf] at hp
    dsimp only at hp
    subst hp
    have HP : Aside0 (PutPost X B own m L a bs (.returned (.bool false)) X') := ⟨by unfold PutPost putF; rw [hf]; exact ⟨rfl, HB.out⟩⟩
    clear hf
    go_wp2_with (with_reducible refine wpList_copy_nothing rfl (.tmp 13) (.tmp 14) 32 32 rfl 5 Try.underlying32 (by kernel_rfl) none A0 0 0 bs.length c0 rfl rfl (Nat.min_eq_right (Nat.zero_le _)) ?_)
    go_ret
    exact HP.out
  | some k =>
    rw [hf] at hp
    dsimp only at hp
    obtain ⟨p, r, cap, hpk, hrk, hhit, hrow, rfl⟩ := hp
    obtain ⟨hh1, hh2, hh3⟩ := hit_iff.1 hhit
    obtain ⟨off, hoff⟩ : ∃ off : Nat, (a - r.base).toNat = off := ⟨_, rfl⟩
    have hoffn : off + bs.length ≤ r.data.length := by omega
    have hreg := HM.out.reg k p r hpk hrk
    obtain ⟨cur, hcur⟩ : ∃ cur : List Value, X'.heap[p.2]? = some (.cells cur.toArray 5 (0, 0)) := by
      obtain ⟨c, hc⟩ := row_block hrow rfl
      exact ⟨c.toList, by rw [(HB.out.block p.2 hreg.lt.2), hc]⟩
    have hcl : cap = cur.length ∧ cur.take r.data.length = nums .u8 r.data := by
      rcases hrow.2 with ⟨h1, _⟩ | ⟨g, cp, c, h1, _, h2, _, _, h3, h4⟩
      · cases h1
      · cases h1
        rw [← HB.out.block p.2 hreg.lt.2, hcur] at h2
        cases h2
        refine ⟨by simpa using h3.symm, by simpa using h4⟩
    have hle : r.data.length ≤ cur.length := by
      have := congrArg List.length hcl.2
      rw [List.length_take, nums_length] at this
      omega
    have hcs : ∀ j u, (nums .u8 bs)[j]? = some u → ∃ ad, A0 = some ad ∧ X'.cell? (ad.add j) = some u := by
      intro j u hu
      have hj := (List.getElem?_eq_some_iff.1 hu).1
      rw [nums_length] at hj
      obtain ⟨ad, e, hx⟩ := Kd.at_int (Kd.C_below HR0.out HB.out) (j : Int) (by omega) (by omega)
      refine ⟨ad, e, ?_⟩
      rw [Int.toNat_natCast] at hx
      rw [hx, ← hu]
      unfold nums rd
      rw [List.getElem?_map, Int.toNat_natCast, List.getD_eq_getElem?_getD, List.getElem?_eq_getElem hj]
      rfl
    obtain ⟨ad, rfl⟩ : ∃ ad, A0 = some ad := by
      obtain ⟨ad, e, _⟩ := hcs 0 _ (List.getElem?_eq_getElem (by rw [nums_length]; omega))
      exact ⟨ad, e⟩
    have HP : Aside0 (PutPost X B own m L a bs (.returned (.bool true)) (X'.setRow p.2 (cur.toArray.toList.take off ++ (nums .u8 bs ++ cur.toArray.toList.drop (off + (nums .u8 bs).length))).toArray)) := by
      refine ⟨?_⟩
      unfold PutPost putF
      rw [hf]
      dsimp only
      rw [hrk]
      dsimp only
      rw [hoff]
      refine ⟨rfl, ⟨v, ps, ?_⟩, ?_⟩
      · refine (HM.out.below HB.out).turn hpk hrk _ (length_splice _ _ _ hoffn) (fun i _ hne => setRow_other _ _ _ _ hne) (fun cap' hr' => ?_)
        rcases hr'.2 with ⟨h1, _⟩ | ⟨g, cp, c, h1, hBg, h2, h5, h6, h3, h4⟩
        · cases h1
        · cases h1
          rw [hcur] at h2
          cases h2
          refine ⟨by rw [nums_length, length_splice _ _ _ hoffn]; omega, .inr ⟨p.2, cap', _, rfl, hBg, setRow_heap _ _ _ _ _ _ hcur, h5, h6, ?_, ?_⟩⟩
          · have := length_splice cur off (nums .u8 bs) (by rw [nums_length]; omega)
            unfold splice at this
            simpa using this.trans (by simpa using h3)
          · rw [nums_splice, ← hcl.2, ← take_splice cur (nums .u8 bs) off r.data.length (by rw [nums_length]; exact hoffn) hle]
            simp [splice]
      · exact (below_out HB.out own).trans ⟨rfl, rfl, rfl, by simp [World.setRow], fun i _ hn => setRow_other _ _ _ _ (fun e => hn (by rw [e]; exact hreg.o2))⟩ (fun _ _ h => h)
    have hn1 : (nums .u8 bs).length = Nat.min bs.length bs.length := by rw [nums_length]; exact (Nat.min_self _).symm
    have HCS := Aside0.mk hcs
    have HCUR := Aside0.mk hcur
    have HFIT : Aside0 (off + (nums .u8 bs).length ≤ cur.toArray.size) := ⟨by rw [nums_length]; simp; omega⟩
    have HN1 := Aside0.mk hn1
    clear hf hpk hrk hhit hrow hreg hcur hcl hcs hh1 hh2 hh3 hn1
    rw [hoff]
    clear hoff hoffn hle
    go_wp2_with (refine wpList_copy_own rfl (.tmp 13) (.tmp 14) 32 32 rfl 5 Try.underlying32 (by kernel_rfl) p.2 off _ _ ad bs.length c0 rfl rfl cur.toArray 5 HCUR.out (nums .u8 bs) HN1.out (fun j u hu => by obtain ⟨ad', e, h⟩ := HCS.out j u hu; cases e; exact h) HFIT.out (fun u hu => by unfold nums at hu; obtain ⟨x, _, rfl⟩ := List.mem_map.1 hu; rfl) ?_)
    go_ret
    exact HP.out
end Go.Proofs.Ytlolhmocimaobaa.PAll
