/-
  word.Walk by contract: an iterator over the words of the reflected walk.
-/
import Derived.Test.YtlcokneidokfnaaWord4
import Derived.Test.YtlcokneidokfnaaCompare
import Derived.Test.YtlcokneidokfnaaSxRound2
namespace Go.Proofs.Ytlcokneidokfnaa
open Go Go.Sx Go.Pl Go.RowKit Go.Fd Go.Alg
theorem naG41 : NA Try.prog 41 := fun w => Try.isAgg41 w
theorem sCloneW (s : Value) (zs : List Int) (w : World) (g0 : Nat) (hs : Ints w s zs) (hg : s.ownBlock = some g0) (hl : zs.length ≤ 64) :
    Calls Try.prog 57 #[s] w (RetX w fun v w' => OwnI w.heap.size w' v 3 zs ∧ ∃ g, v.ownBlock = some g) := by
  have hsl : ∃ a n c, s = .slice a n c := by obtain ⟨⟨a, c, h, _⟩, _⟩ := hs; exact ⟨a, _, c, h⟩
  refine calls1 Try.func57 rfl rfl ?_
  refine wc_seq ?_
  refine wc_region [0] rfl ?_
  refine Go.Sx.V rfl wu rfl rfl (asg rfl) ?_
  refine wr_nil (post_thenN (wc_seq (wc_seq ?_)))
  refine wc_region [0,1] rfl ?_
  refine Go.Sx.V rfl wu rfl rfl (mv rfl) ?_
  refine Go.Sx.V rfl wu rfl rfl (eqlN rfl rfl Try.underlying26 hsl) ?_
  refine wr_nil (post_thenN ?_)
  refine wc_condF rfl (by simp [hg]) ?_
  refine wc_skip (post_thenN (wc_seq ?_))
  refine wc_region [0,1,2,3] rfl ?_
  refine BSI (zs := []) rfl wu rfl rfl rfl rfl ty26 ?_
  intro v0 w1 hE ho hi hb
  refine Go.Sx.V rfl wu rfl rfl (mv rfl) ?_
  refine API rfl wu rfl rfl rfl ty26 (by intro h h2; cases h) ?_
  intro v w2 hg2 hX ho2 hi2 hb2
  refine Go.Sx.V rfl wu rfl rfl (asg rfl) ?_
  refine wr_nil (post_thenN (wc_ret ?_))
  refine post_ret1 rfl rfl ?_
  refine ⟨hX _ (Nat.le_refl _) hE, ho2, ?_⟩
  rcases hb2 with e | e
  · exact ⟨_, e.trans hb⟩
  · exact ⟨_, e⟩

theorem rSameW (a b : Value) (xs ys : List Int) (w : World) (ha : Ints w a xs) (hb : Ints w b ys) :
    Calls Try.prog 24 #[a, b] w (RetX w fun v _ => v = .bool (decide (xs = ys))) := by
  refine calls2 Try.func24 rfl rfl ?_
  refine wc_seq ?_
  refine wc_region [0] rfl ?_
  refine Go.Sx.V rfl wu rfl rfl (asg rfl) ?_
  refine wr_nil (post_thenN (wc_seq ?_))
  refine wc_region [0,1,2,3,4] rfl ?_
  refine Go.Sx.V rfl wu rfl rfl (mv rfl) ?_
  refine Go.Sx.V rfl wu rfl rfl (mv rfl) ?_
  refine C rfl wu rfl rfl Try.call20 (rCompare a b xs ys _ ha hb) ?_
  rintro _ w1 hE rfl
  refine Go.Sx.V rfl wu rfl rfl (eqlI rfl rfl) ?_
  refine Go.Sx.V rfl wu rfl rfl (asg rfl) ?_
  refine wr_nil (post_thenN (wc_ret ?_))
  refine post_ret1 rfl rfl ?_
  refine ⟨hE, ?_⟩
  have := cmpL_eq xs ys
  by_cases h : xs = ys
  · simp [h, cmpL_self]
  · simp [h, this]

/-- The first k words of the walk. -/
def words (q : Int) (n k : Nat) : List (List Int) := (List.range k).map fun t : Nat => refl q n t
theorem words_succ (q : Int) (n k : Nat) : words q n (k + 1) = words q n k ++ [refl q n k] := by simp [words, List.range_succ]
theorem words_length (q : Int) (n k : Nat) : (words q n k).length = k := by simp [words]
/-- What Walk gives, all told, and where it is stopped. -/
def WalkAll (q n : Int) (xs : List (Value × List Int)) : Prop := ((cntA q n).2 ≠ 0 → xs = []) ∧ ((cntA q n).2 = 0 → xs.map (·.2) = words q n.toNat (q ^ n.toNat).toNat)
def WalkPart (q n : Int) (xs : List (Value × List Int)) : Prop := (cntA q n).2 = 0 ∧ ∃ k : Nat, (k : Int) < q ^ n.toNat ∧ xs.map (·.2) = words q n.toNat (k + 1)

theorem WK.block {B : Nat} {w w' : World} {v : Value} {q : Int} {ws ds : Value} {b kw kd : Nat} {L : List Int} {D : List Value} (h : WK B w v q ws ds b kw kd L D) (hb : ∀ k, B ≤ k → k < w.heap.size → w'.heap[k]? = w.heap[k]?) : WK B w' v q ws ds b kw kd L D := by
  have h1 := Own.lt h.own
  have h2 := Own.lt h.dwn
  refine ⟨h.ptr, ?_, ⟨ownsRow_block h.own.row fun k hk => hb k (h1 k hk).1 (h1 k hk).2, Own.le h.own⟩, ⟨ownsRow_block h.dwn.row fun k hk => hb k (h2 k hk).1 (h2 k hk).2, h.dwn.le⟩, h.wb, h.db, h.ne, h.nb1, h.nb2, h.le⟩
  have h3 : w.heap[b]? = some (.cells #[.int .i64 q, ws, ds] 95) := h.blk
  show w'.heap[b]? = some (.cells #[.int .i64 q, ws, ds] 95)
  rw [hb b h.le (Array.getElem?_eq_some_iff.1 h3).1]
  exact h3
theorem gr_below {X : List Nat} {B : Nat} {w w' : World} (h : Gr X w w') (hX : ∀ k ∈ X, B ≤ k) (hB : B ≤ w.heap.size) : Below B w w' :=
  ⟨h.os, h.tape, h.output, h.size, fun k hk => h.block k (by omega) (fun hx => by have := hX k hx; omega)⟩

theorem wWalk (P : FP) (g : Value) (n : Int) (w : World) (hG : GFV w P g) :
    Calls Try.prog 52 #[g, .int .i64 n] w (RetX w fun v w' => ∃ gb nb, v = .func (.func 74) #[] #[.pointer (some ⟨gb, 0, none⟩), .pointer (some ⟨nb, 0, none⟩)] ∧ Blk w' gb 41 #[g] ∧ Blk w' nb 3 #[.int .i64 n]) := by
  have hg1 : g.oneCell' = true := by
    obtain ⟨gb, _, _, _, _, _, _, rfl, _⟩ := hG.ex
    rfl
  refine calls2 Try.func52 rfl rfl ?_
  refine wc_seq ?_
  refine wc_region [0,1,2] rfl ?_
  refine BXV rfl wu rfl rfl (by first | rfl | assumption) ?_
  intro gb w1 hE1 hB1 hb1
  refine BXV rfl wu rfl rfl (by first | rfl | assumption) ?_
  intro nb w2 hE2 hB2 hb2
  refine Go.Sx.V rfl wu rfl rfl (asg rfl) ?_
  refine wr_nil (post_thenN (wc_seq ?_))
  refine wc_region [0,1] rfl ?_
  refine Go.Sx.V rfl wu rfl rfl (mkf rfl rfl) ?_
  refine Go.Sx.V rfl wu rfl rfl (asg rfl) ?_
  refine wr_nil (post_thenN (wc_ret ?_))
  refine post_ret1 rfl rfl ?_
  exact ⟨hE1.trans hE2, gb, nb, rfl, hB1.ext hE2, hB2⟩

set_option maxRecDepth 10000 in
theorem wWalkSeq (P : FP) (g : Value) (n : Int) (gb nb : Nat) (w : World) (hG : GFV w P g) (hB1 : Blk w gb 41 #[g]) (hB2 : Blk w nb 3 #[.int .i64 n]) :
    SeqA Try.prog 74 #[.pointer (some ⟨gb, 0, none⟩), .pointer (some ⟨nb, 0, none⟩)] (fun x : Value × List Int => x.1) (fun x W => Ints W x.1 x.2) (WalkAll P.q n) (WalkPart P.q n) w := by
  intro rl J Jx W hW hJ hJx hY h0
  replace hB1 := hB1.ext hW
  replace hB2 := hB2.ext hW
  replace hG := hG.ext hW
  have hq2 := P.q_two
  have hq11 := hG.q11
  refine iter_of3 Try.func74 rfl rfl ?_
  refine wi_seq (wi_seq ?_)
  refine wi_region [0,1,2,3,4,5,6,7] rfl ?_
  refine Go.Sx.V rfl wu rfl rfl (ldB rfl naG41 hB1) ?_
  refine Go.Sx.V rfl wu rfl rfl (ldB rfl na3) ?_
  refine C rfl wu rfl rfl Try.call46 (wCount P g n _ hG) ?_
  rintro _ w1 hE rfl
  refine Go.Sx.V rfl wu rfl rfl (mv rfl) ?_
  refine Go.Sx.V rfl wu rfl rfl (ext rfl rfl) ?_
  refine Go.Sx.V rfl wu rfl rfl (ext rfl rfl) ?_
  refine Go.Sx.V rfl wu rfl rfl (asg rfl) ?_
  refine Go.Sx.V rfl wu rfl rfl (asg rfl) ?_
  refine wir_nil (posti_thenN (wi_seq ?_))
  replace h0 := hJ _ _ _ h0 hE
  replace hB1 := hB1.ext hE
  replace hB2 := hB2.ext hE
  refine wi_region [0,1] rfl ?_
  refine Go.Sx.V rfl wu rfl rfl (mv rfl) ?_
  refine Go.Sx.V rfl wu rfl rfl (neqI rfl rfl) ?_
  refine wir_nil (posti_thenN ?_)
  refine wi_cond rfl ?_ ?_
  · intro h
    simp at h
    refine wi_ret (posti_thenR ?_)
    exact posti_of (post_ret0 rfl ⟨⟨_, rfl⟩, .inl ⟨[], ⟨fun _ => rfl, fun h' => absurd h' h⟩, h0⟩⟩)
  · intro h
    simp at h
    obtain ⟨hn0, hn64, hpw, _⟩ := cnt_len h
    have hp1 := pw_pos hq2 n.toNat
    refine wi_skip (posti_thenN (wi_seq ?_))
    refine wi_region [0,1,2,3] rfl ?_
    refine Go.Sx.V rfl wu rfl rfl (ldB rfl naG41 hB1) ?_
    refine Go.Sx.V rfl wu rfl rfl (ldB rfl na3) ?_
    refine C rfl wu rfl rfl Try.call65 (wStart P g n _ (hG.ext hE) ⟨hn0, hn64⟩) ?_
    rintro wv w2 hE2 ⟨ws, ds, b, kw, kd, hK⟩
    refine Go.Sx.V rfl wu rfl rfl (asg rfl) ?_
    refine wir_nil (posti_thenN (wi_seq ?_))
    obtain ⟨N, hN⟩ : ∃ N, N = n.toNat := ⟨_, rfl⟩
    rw [← hN] at hK hp1 hpw
    have hsz1 := hE.size
    have hkw := (Own.lt hK.own _ hK.wb)
    have hkd := (Own.lt hK.dwn _ hK.db)
    have hbl := hK.blk.lt
    have hle := hK.le
    replace h0 := hJ _ _ _ h0 (hE2.mono hsz1)
    refine wi_region [0] rfl ?_
    refine Go.Sx.V rfl wu rfl rfl (asg rfl) ?_
    refine wir_nil (posti_thenN (wi_block ?_))
    have hz0 : refl P.q N 0 = refl P.q N ((0 : Nat) : Int) := rfl
    refine wi_loop (fun s : Nat × List (Value × List Int) × Bool => [(0, .func (.yield rl) #[] #[]), (6, wv), (7, .bool s.2.2)])
      (fun s w' => W.heap.size ≤ w'.heap.size ∧ s.2.1.map (·.2) = words P.q N s.1 ∧ J s.2.1 w' ∧ ((s.2.2 = true ∧ (s.1 : Int) < P.q ^ N ∧ WK w1.heap.size w' wv P.q ws ds b kw kd (refl P.q N s.1) (dns P.q N s.1)) ∨ (s.2.2 = false ∧ (s.1 : Int) = P.q ^ N)))
      (fun s => (P.q ^ N).toNat - s.1) (0, [], true) ⟨rfl, rfl, rfl, trivial⟩ ⟨by have := hE2.size; omega, rfl, h0, .inl ⟨rfl, by show (0 : Int) < _; omega, hK⟩⟩ ?_
    clear hK h0 hz0 hB1 hB2
    rintro ⟨t, pre, ok⟩ w3 ⟨hs3, hpre, hj, hcase⟩
    dsimp only at hs3 hpre hj hcase
    try dsimp only
    refine wi_seq (wi_seq ?_)
    refine wi_region [0] rfl ?_
    refine Go.Sx.V rfl wu rfl rfl (mv rfl) ?_
    refine wir_nil (posti_thenN ?_)
    refine wi_cond rfl ?_ ?_
    · intro hok
      rcases hcase with ⟨_, ht, hK⟩ | ⟨hf, _⟩
      · have hlen : (refl P.q N t).length ≤ 64 := by rw [refl_length]; omega
        refine wi_skip (posti_thenN (wi_seq (wi_block (wi_seq ?_))))
        refine wi_regionY [0,1,2,3,4,5] [6,7] rfl ?_
        refine Go.Sx.V rfl wu rfl rfl (mv rfl) ?_
        refine Go.Sx.V rfl wu rfl rfl (mv rfl) ?_
        refine Go.Sx.V rfl wu rfl rfl (nchk (by rw [hK.ptr]; rfl)) ?_
        refine Go.Sx.V rfl wu rfl rfl (fad (by rw [hK.ptr]; rfl) fa95_1) ?_
        refine Go.Sx.V rfl wu rfl rfl (ldB rfl na26 hK.blk) ?_
        refine C rfl wu rfl rfl Try.call57 (sCloneW ws (refl P.q N t) _ kw (OwnI.ints hK.own) hK.wb hlen) ?_
        rintro v w4 hE4 ⟨hv, _⟩
        replace hj := hJ _ _ _ hj (hE4.mono hs3)
        replace hK := hK.ext hE4
        have hs4 := Nat.le_trans hs3 hE4.size
        refine wir_yield rfl (by kernel_rfl) rfl rfl rfl (hY pre (v, refl P.q N t) _ hj (OwnI.ints hv)) ?_
        rintro e w5 (⟨rfl, hj5, hka⟩ | ⟨rfl, hj5⟩)
        · refine ⟨_, rfl, ?_⟩
          refine Go.Sx.V rfl wu rfl rfl (notB rfl) ?_
          refine wir_nil (posti_thenN ?_)
          refine wi_condF rfl (by simp) ?_
          refine wi_skip (posti_blockN (posti_thenN ?_))
          replace hK := hK.block (fun k hk hk2 => hka.same k (by omega) hk2)
          have hs5 := Nat.le_trans hs4 hka.size
          refine wi_region [0,1,2,3,4,5] rfl ?_
          refine Go.Sx.V rfl wu rfl rfl (mv rfl) ?_
          refine CG rfl wu rfl rfl Try.call66 (wNext _ _ N t _ _ _ _ _ _ _ hK ⟨hq2, hq11⟩ ⟨by omega, ht⟩ (by omega)) (by intro h; cases h) ?_
          intro r w6 hGr hr0
          obtain ⟨a1, a2, a3, ok', hre, hr3⟩ := nx_split hr0
          clear hr0
          subst hre
          refine Go.Sx.V rfl wu rfl rfl (mv rfl) ?_
          refine Go.Sx.V rfl wu rfl rfl (ext rfl rfl) ?_
          refine Go.Sx.V rfl wu rfl rfl (ext rfl rfl) ?_
          refine Go.Sx.V rfl wu rfl rfl (asg rfl) ?_
          refine wir_nil ?_
          have hj6 := hJ _ _ _ hj5 (gr_below hGr (B := W.heap.size) (by intro k hk; simp at hk; omega) hs5)
          refine posti_loopN (t + 1, pre ++ [(v, refl P.q N t)], ok') ⟨rfl, rfl, rfl, trivial⟩ ⟨Nat.le_trans hs5 hGr.size, by rw [List.map_append, hpre, words_succ]; rfl, hj6, ?_⟩ (by show (P.q ^ N).toNat - (t + 1) < (P.q ^ N).toNat - t; omega)
          rcases hr3 with ⟨h1, h2, _, h4⟩ | ⟨h1, h2⟩
          · exact .inl ⟨h1, by show ((t + 1 : Nat) : Int) < _; omega, h4⟩
          · exact .inr ⟨h1, by show ((t + 1 : Nat) : Int) = _; omega⟩
        · refine ⟨_, rfl, ?_⟩
          refine Go.Sx.V rfl wu rfl rfl (notB rfl) ?_
          refine wir_nil (posti_thenN ?_)
          refine wi_condT rfl (by simp) ?_
          refine wi_ret (posti_blockR (posti_thenR (posti_loopR (posti_blockR ?_))))
          exact posti_of (post_ret0 rfl ⟨⟨_, rfl⟩, .inr ⟨_, ⟨h, t, by rw [← hN]; exact ht, by rw [← hN, List.map_append, hpre, words_succ]; rfl⟩, hj5⟩⟩)
      · rw [hf] at hok; cases hok
    · intro hok
      rcases hcase with ⟨hf, _⟩ | ⟨_, ht⟩
      · rw [hf] at hok; cases hok
      · skip
        refine wi_exit (posti_thenE (posti_loopE (posti_blockX ?_)))
        exact posti_of (post_end0 rfl ⟨⟨_, rfl⟩, .inl ⟨pre, ⟨fun h' => absurd h h', fun _ => by rw [← hN, hpre, ← ht, Int.toNat_natCast]⟩, hj⟩⟩)
end Go.Proofs.Ytlcokneidokfnaa
