import Derived.Test.YtcfbigmjjpknfaaGreatDoorW11
import Derived.Laws.Externs
import Derived.Test.YtcfbigmjjpknfaaGreatDoorW16
namespace Go.Lg
def bt (s : ByteArray) (k : Nat) : Nat := if h : k < s.size then (s[k]'h).toNat else 0
def isLetter (b : Nat) : Bool := Nat.ble 97 b && Nat.ble b 122
def isDigit (b : Nat) : Bool := Nat.ble 48 b && Nat.ble b 57
def inName (b : Nat) : Bool := isLetter b || isDigit b || Nat.beq b 95
def wh (s : ByteArray) (f : Nat → Bool) : Nat → Nat → Nat
 | 0, k => k
 | n + 1, k => if Nat.blt k s.size && f (bt s k) then wh s f n (k + 1) else k
def end' (s : ByteArray) (f : Nat → Bool) (k : Nat) : Nat := wh s f (s.size - k) k
theorem wh_le (s : ByteArray) (f : Nat → Bool) : ∀ n k, k ≤ wh s f n k ∧ wh s f n k ≤ max k s.size
 | 0, k => ⟨Nat.le_refl _, Nat.le_max_left _ _⟩
 | n + 1, k => by
  rw [wh]
  split
  ·rename_i h
   have hk : k < s.size := by
    have := (Bool.and_eq_true _ _ ▸ h : Nat.blt k s.size = true ∧ f (bt s k) = true).1
    simpa using this
   have := wh_le s f n (k + 1)
   omega
  ·omega
theorem wh_first (s : ByteArray) (f : Nat → Bool) {n k : Nat} (hn : 0 < n) (hk : k < s.size) (h : f (bt s k) = true) : k + 1 ≤ wh s f n k := by
 obtain ⟨m, rfl⟩ : ∃ m, n = m + 1 := ⟨n - 1, by omega⟩
 rw [wh, if_pos (by rw [h, Bool.and_true]; simpa using hk)]
 exact (wh_le s f m (k + 1)).1
theorem end_le (s : ByteArray) (f : Nat → Bool) (k : Nat) (hk : k ≤ s.size) : k ≤ end' s f k ∧ end' s f k ≤ s.size := by
 have := wh_le s f (s.size - k) k
 rw [end']
 omega
theorem end_first (s : ByteArray) (f : Nat → Bool) {k : Nat} (hk : k < s.size) (h : f (bt s k) = true) : k + 1 ≤ end' s f k := wh_first s f (by omega) hk h
theorem end_step (s : ByteArray) (f : Nat → Bool) {k : Nat} (hk : k < s.size) (h : f (bt s k) = true) : end' s f k = end' s f (k + 1) := by
 rw [end', end', show s.size - k = (s.size - (k + 1)) + 1 by omega, wh, if_pos (by rw [h, Bool.and_true]; simpa using hk)]
theorem QcZ (s : ByteArray) (f : Nat → Bool) {k : Nat} (hk : ¬ (k < s.size ∧ f (bt s k) = true)) : end' s f k = k := by
 rw [end']
 cases h : s.size - k with
 | zero => rfl
 | succ n => rw [wh, if_neg (by intro e; rw [Bool.and_eq_true] at e; exact hk ⟨by simpa using e.1, e.2⟩)]
structure Tok where
 kind : Int
 text : ByteArray
 n : Int
 pos : Int
def tokAt (s : ByteArray) (k : Nat) : Option (Option Tok × Nat) :=
 if Nat.beq (bt s k) 32 || Nat.beq (bt s k) 9 || Nat.beq (bt s k) 10 then some (none, k + 1)
 else if isLetter (bt s k) then (if Nat.blt (k + 16) (end' s inName k) then none else some (some ⟨1, s.extract k (end' s inName k), 0, k⟩, end' s inName k))
 else if isDigit (bt s k) then
  (if Nat.beq (end' s isDigit k) (k + 1) && Nat.blt (k + 1) s.size && !isLetter (bt s (k + 1)) && !Nat.beq (bt s (k + 1)) 95 then some (some ⟨2, s.extract k (k + 1), (bt s k : Int) - 48, k⟩, k + 1) else none)
 else if [40, 41, 91, 93, 44].contains (bt s k) then some (some ⟨3, s.extract k (k + 1), 0, k⟩, k + 1)
 else none
def toks (s : ByteArray) : Nat → Nat → Option (List Tok)
 | 0, k => if Nat.blt k s.size then none else some []
 | f + 1, k => if Nat.blt k s.size then
   (match tokAt s k with
   | none => none
   | some (t, k') => (toks s f k').map (t.toList ++ ·))
  else some []
inductive Ex where
 | mk (kind : Int) (name : ByteArray) (n : Int) (args : List Ex)
def sgLP : ByteArray := ⟨#[40]⟩
def sgRP : ByteArray := ⟨#[41]⟩
def sgCM : ByteArray := ⟨#[44]⟩
def kindAt (ts : List Tok) (i : Nat) : Int := match ts[i]? with
 | some t => t.kind
 | none => 0
def isAt (ts : List Tok) (i : Nat) (s : ByteArray) : Bool := match ts[i]? with
 | some t => decide (t.kind = 3) && decide (t.text = s)
 | none => false
mutual
def expr (ts : List Tok) : Nat → Nat → Nat → Nat → Option (Ex × Nat × Nat)
 | 0, _, _, _ => none
 | f + 1, i, depth, nodes => match ts[i]? with
  | none => none
  | some t =>
   if Nat.blt 32 depth || Nat.ble 1024 nodes then none
   else if decide (t.kind = 2) then some (.mk 1 ⟨#[]⟩ t.n [], i + 1, nodes + 1)
   else if decide (t.kind = 1) then
    (if isAt ts (i + 1) sgLP then
     (match args ts f (i + 2) (depth + 1) (nodes + 1) [] with
     | none => none
     | some (aZs, j, m) => some (.mk 3 t.text 0 aZs, j, m))
    else some (.mk 4 t.text 0 [], i + 1, nodes + 1))
   else none
def args (ts : List Tok) : Nat → Nat → Nat → Nat → List Ex → Option (List Ex × Nat × Nat)
 | 0, _, _, _, _ => none
 | f + 1, i, depth, nodes, acc =>
  if isAt ts i sgRP then some (acc, i + 1, nodes)
  else if acc.isEmpty then
   (match expr ts f i depth nodes with
   | none => none
   | some (x, j, m) => args ts f j depth m (acc ++ [x]))
  else if isAt ts i sgCM then
   (match expr ts f (i + 1) depth nodes with
   | none => none
   | some (x, j, m) => args ts f j depth m (acc ++ [x]))
  else none
end
def isNameB (s : ByteArray) : Bool := Nat.blt 0 s.size && Nat.ble s.size 16 && isLetter (bt s 0) && Nat.beq (end' s inName 0) s.size
mutual
def okE : Ex → Bool
 | .mk k nm n xs => (decide (k = 1) && decide (nm = ⟨#[]⟩) && decide (0 ≤ n) && decide (n ≤ 9) && xs.isEmpty) || (decide (k = 3) && decide (n = 0) && isNameB nm && okL xs)
def okL : List Ex → Bool
 | [] => true
 | x :: xs => okE x && okL xs
end
mutual
def depth : Ex → Nat
 | .mk _ _ _ xs => depthL xs + 1
def depthL : List Ex → Nat
 | [] => 0
 | x :: xs => max (depth x) (depthL xs)
end
mutual
def size : Ex → Nat
 | .mk _ _ _ xs => sizeL xs + 1
def sizeL : List Ex → Nat
 | [] => 0
 | x :: xs => size x + sizeL xs
end
mutual
def wlen : Ex → Nat
 | .mk _ nm _ xs => nm.size + 4 + wlenL xs
def wlenL : List Ex → Nat
 | [] => 0
 | x :: xs => wlen x + 2 + wlenL xs
end
theorem Qb1 : ∀ {xs : List Ex} {i : Nat} {x : Ex}, okL xs = true → xs[i]? = some x → okE x = true
 | [], i, x, _, h => by simp at h
 | y :: xs, 0, x, h, e => by
  rw [okL, Bool.and_eq_true] at h
  obtain rfl : y = x := by simpa using e
  exact h.1
 | y :: xs, i + 1, x, h, e => by
  rw [okL, Bool.and_eq_true] at h
  exact Qb1 h.2 (by simpa using e)
theorem Jn : ∀ {xs : List Ex} {i : Nat} {x : Ex}, xs[i]? = some x → depth x ≤ depthL xs
 | [], i, x, h => by simp at h
 | y :: xs, 0, x, e => by
  obtain rfl : y = x := by simpa using e
  rw [depthL]; omega
 | y :: xs, i + 1, x, e => by
  have := Jn (xs := xs) (i := i) (x := x) (by simpa using e)
  rw [depthL]; omega
theorem KO : ∀ {xs : List Ex} {i : Nat} {x : Ex}, xs[i]? = some x → depthL (xs.take (i + 1)) = max (depthL (xs.take i)) (depth x)
 | [], i, x, h => by simp at h
 | y :: xs, 0, x, e => by
  obtain rfl : y = x := by simpa using e
  simp [depthL]
 | y :: xs, i + 1, x, e => by
  have := KO (xs := xs) (i := i) (x := x) (by simpa using e)
  rw [List.take_succ_cons, depthL, this, List.take_succ_cons, depthL]; omega
theorem Qai : ∀ {xs : List Ex} {i : Nat} {x : Ex}, xs[i]? = some x → sizeL (xs.take (i + 1)) = sizeL (xs.take i) + size x
 | [], i, x, h => by simp at h
 | y :: xs, 0, x, e => by
  obtain rfl : y = x := by simpa using e
  simp [sizeL]
 | y :: xs, i + 1, x, e => by
  have := Qai (xs := xs) (i := i) (x := x) (by simpa using e)
  rw [List.take_succ_cons, sizeL, this, List.take_succ_cons, sizeL]; omega
theorem Qad : ∀ {xs : List Ex} {i : Nat} {x : Ex}, xs[i]? = some x → wlenL (xs.take (i + 1)) = wlenL (xs.take i) + (wlen x + 2)
 | [], i, x, h => by simp at h
 | y :: xs, 0, x, e => by
  obtain rfl : y = x := by simpa using e
  simp [wlenL]
 | y :: xs, i + 1, x, e => by
  have := Qad (xs := xs) (i := i) (x := x) (by simpa using e)
  rw [List.take_succ_cons, wlenL, this, List.take_succ_cons, wlenL]; omega
theorem Qcv : ∀ {xs : List Ex} (i : Nat), wlenL (xs.take i) ≤ wlenL xs
 | [], i => by simp
 | y :: xs, 0 => by simp [wlenL]
 | y :: xs, i + 1 => by
  have := Qcv (xs := xs) i
  rw [List.take_succ_cons, wlenL, wlenL]; omega
def hammingText : ByteArray := ⟨#[104, 97, 109, 109, 105, 110, 103, 40, 103, 102, 40, 50, 41, 44, 32, 51, 41]⟩
def hamming : ByteArray := ⟨#[104, 97, 109, 109, 105, 110, 103]⟩
def gfName : ByteArray := ⟨#[103, 102]⟩
def hammingToks : List Tok := [⟨1, hamming, 0, 0⟩, ⟨3, sgLP, 0, 7⟩, ⟨1, gfName, 0, 8⟩, ⟨3, sgLP, 0, 10⟩, ⟨2, ⟨#[50]⟩, 2, 11⟩, ⟨3, sgRP, 0, 12⟩, ⟨3, sgCM, 0, 13⟩, ⟨2, ⟨#[51]⟩, 3, 15⟩, ⟨3, sgRP, 0, 16⟩]
def hammingExpr : Ex := .mk 3 hamming 0 [.mk 3 gfName 0 [.mk 1 ⟨#[]⟩ 2 []], .mk 1 ⟨#[]⟩ 3 []]
theorem QbC : toks hammingText 17 0 = some hammingToks := by rfl
theorem QbD : expr hammingToks 9 0 1 0 = some (hammingExpr, 9, 4) := by
 simp [expr, args, hammingToks, isAt, sgLP, sgRP, sgCM, hammingExpr, hamming, gfName]
theorem Qdo : okE hammingExpr = true := by
 simp [okE, okL, hammingExpr]
 refine ⟨?_, ?_⟩ <;> rfl
theorem JD : depth hammingExpr = 3 ∧ size hammingExpr = 4 ∧ wlen hammingExpr ≤ 100 := by
 refine ⟨?_, ?_, ?_⟩ <;> simp [depth, depthL, size, sizeL, wlen, wlenL, hammingExpr, hamming, gfName, ByteArray.size]
end Go.Lg
namespace Go.Proofs.YtcfbigmjjpknfaaGreatDoor
open Go Go.Sx Go.Pl Go.RowKit Go.Lg
theorem XQ : Tryz.prog.underlying 9 = some .string := Tryz.underlying9
theorem dle (a b : Nat) : decide ((a : Int) ≤ (b : Int)) = Nat.ble a b := by
 rw [Bool.eq_iff_iff]; simp [Int.ofNat_le]
theorem deq (a b : Nat) : decide ((a : Int) = (b : Int)) = Nat.beq a b := by
 rw [Bool.eq_iff_iff]; simp [Int.ofNat_inj]
theorem btg {s : ByteArray} {k : Nat} (h : k < s.size) : (s[((k : Int)).toNat]'(by omega)).toNat = bt s k := by
 rw [bt, dif_pos h]; rfl
theorem bt_lt (s : ByteArray) (k : Nat) : bt s k < 256 := by
 rw [bt]; split
 ·exact UInt8.toNat_lt _
 ·omega
theorem Xp (b : Nat) (w : World) : Calls Tryz.prog 77 #[.int .u8 b] w (RetX w fun r _ => r = .bool (isLetter b)) := by
 refine QL Tryz.func77 rfl rfl (Qc (Qb [0] rfl (Qk rfl rfl (Qd (Qa (Qc (Qb [0,1,2,3,4,5,6] rfl (mvV rfl rfl (Vw rfl (geqK rfl rfl) (mvV rfl rfl ?_))))))))))
 refine AND (π1 := [3,4,5]) (π2 := [6]) (tc := 5) (tp := 8) rfl rfl rfl (by
   intro hg
   simp at hg
   refine Vg rfl rfl rfl (mv rfl) (Vg rfl rfl rfl (leqK rfl rfl) (pkV rfl rfl rfl ?_))
   exact Zx rfl) (by
   intro _
   refine SK rfl rfl rfl rfl rfl (SK rfl rfl rfl rfl rfl (pkV rfl rfl rfl ?_))
   exact Zx rfl) ?_
 refine Qk rfl rfl (Qd (Qa (Qq (Qj rfl rfl ?_))))
 exact ⟨Ext.refl _, by rw [isLetter, ← dle, ← dle]; rfl⟩
theorem QaU (b : Nat) (w : World) : Calls Tryz.prog 80 #[.int .u8 b] w (RetX w fun r _ => r = .bool (isDigit b)) := by
 refine QL Tryz.func80 rfl rfl (Qc (Qb [0] rfl (Qk rfl rfl (Qd (Qa (Qc (Qb [0,1,2,3,4,5,6] rfl (mvV rfl rfl (Vw rfl (geqK rfl rfl) (mvV rfl rfl ?_))))))))))
 refine AND (π1 := [3,4,5]) (π2 := [6]) (tc := 5) (tp := 8) rfl rfl rfl (by
   intro hg
   simp at hg
   refine Vg rfl rfl rfl (mv rfl) (Vg rfl rfl rfl (leqK rfl rfl) (pkV rfl rfl rfl ?_))
   exact Zx rfl) (by
   intro _
   refine SK rfl rfl rfl rfl rfl (SK rfl rfl rfl rfl rfl (pkV rfl rfl rfl ?_))
   exact Zx rfl) ?_
 refine Qk rfl rfl (Qd (Qa (Qq (Qj rfl rfl ?_))))
 exact ⟨Ext.refl _, by rw [isDigit, ← dle, ← dle]; rfl⟩
theorem lInName (b : Nat) (w : World) : Calls Tryz.prog 79 #[.int .u8 b] w (RetX w fun r _ => r = .bool (inName b)) := by
 refine QL Tryz.func79 rfl rfl (Qc (Qb [0] rfl (Qk rfl rfl (Qd (Qa (Qc (Qb [0,1,2,3,4,5,6,7,8,9,10] rfl (mvV rfl rfl (C rfl wu rfl rfl Tryz.call77 (Xp b _) ?_)))))))))
 rintro _ w1 hE rfl
 refine mvV rfl rfl ?_
 refine ORX (π1 := [3,4,5]) (π2 := [6,7,8,9,10]) (tc := 5) (tp := 8) rfl rfl rfl (by
   intro _
   refine SK rfl rfl rfl rfl rfl (SK rfl rfl rfl rfl rfl (pkV rfl rfl rfl ?_))
   exact Qab rfl) (by
   intro hg
   refine Vg rfl rfl rfl (mv rfl) (C rfl (wg rfl rfl) rfl rfl Tryz.call80 (QaU b _) ?_)
   rintro _ w2 hE2 rfl
   refine pkV rfl rfl rfl ?_
   exact Qab rfl) ?_
 intro w3 hE3
 refine mvV rfl rfl ?_
 refine OR (π1 := [7,8,9]) (π2 := [10]) (tc := 9) (tp := 12) rfl rfl rfl (by
   intro _
   refine SK rfl rfl rfl rfl rfl (SK rfl rfl rfl rfl rfl (pkV rfl rfl rfl ?_))
   exact Zx rfl) (by
   intro hg
   simp at hg
   refine Vg rfl rfl rfl (mv rfl) (Vg rfl rfl rfl (eqlK rfl rfl) (pkV rfl rfl rfl ?_))
   exact Zx rfl) ?_
 refine Qk rfl rfl (Qd (Qa (Qq (Qj rfl rfl ?_))))
 exact ⟨hE.trans hE3, by rw [inName, ← deq]; rfl⟩
theorem lWhile (p : Nat → Bool) (f : FuncId) (s : ByteArray) (k : Nat) (w : World) (hk : k ≤ s.size) (hs : s.size ≤ 65536) (hcall : ∀ args w, (callFunc f args).run Tryz.prog w = .ok (.enter f args) w)
  (hf : ∀ (b : Nat) w, Calls Tryz.prog f #[.int .u8 b] w (RetX w fun r _ => r = .bool (p b))) :
  Calls Tryz.prog 78 #[.string s, .int .i64 k, .func (.func f) #[] #[]] w (RetX w fun r _ => r = .int .i64 (end' s p k)) := by
 refine QS Tryz.func78 rfl rfl (Qc (Qb [0] rfl (Qk rfl rfl (Qd (Qa (Qc (Qf ?_)))))))
 refine Qv (fun j : Nat => [(0, .string s), (2, .func (.func f) #[] #[]), (1, .int .i64 j)]) (fun j w' => j ≤ s.size ∧ Ext w w' ∧ end' s p j = end' s p k) (fun j => s.size - j) k ⟨rfl, rfl, rfl, trivial⟩ ⟨hk, Ext.refl _, rfl⟩ ?_
 rintro j w1 ⟨j1, hE, he⟩
 try dsimp only
 refine Qc (Qc ?_)
 by_cases hj : j < s.size
 ·skip
  refine Qb [0,1,2,3,4,5,6,7,8,9,10] rfl (mvV rfl rfl (mvV rfl rfl (Vw rfl (Qdn rfl XQ) ?_)))
  refine Qy rfl rfl rfl (mvV rfl rfl (KB 11 true rfl (by simp; omega) (Vg rfl rfl rfl (mv rfl) (Vg rfl rfl rfl (mv rfl) (Vg rfl rfl rfl (mv rfl) (Vg rfl rfl rfl (ixS (u := j) rfl rfl XQ (by omega) (by omega)) (CVX (fs := []) (cs := []) (vs := [_]) rfl (wg rfl rfl) rfl rfl rfl hcall (hf _ _) ?_)))))))
  rintro _ w2 hE2 rfl
  refine pkV rfl rfl rfl (Qd (Qa ?_))
  rw [btg hj]
  refine Qo rfl ?_ ?_
  ·intro hc
   refine Qe (Qa (Qf (Qb [0,1,2] rfl (mvV rfl rfl (Qw rfl rfl rfl (Qk rfl rfl (Qd (Qg ?_))))))))
   exact Qi (j + 1) ⟨rfl, rfl, rfl, trivial⟩ ⟨by omega, hE.trans hE2, (end_step s p hj hc).symm.trans he⟩ (by omega)
  ·intro hc
   refine Qt (Ql (Qm (Qh (Qa (Qc (Qb [0,1] rfl (mvV rfl rfl (Qk rfl rfl (Qd (Qa (Qq (Qj rfl rfl ?_))))))))))))
   exact ⟨hE.trans hE2, by rw [← he, QcZ s p (fun h => by rw [hc] at h; cases h.2)]⟩
 ·skip
  refine Qb [0,1,2,3,4,5,6,7,8,9,10] rfl (mvV rfl rfl (mvV rfl rfl (Vw rfl (Qdn rfl XQ) ?_)))
  refine Qy rfl rfl rfl (mvV rfl rfl (KB 11 false rfl (by simp; omega) (SK rfl rfl rfl rfl rfl (SK rfl rfl rfl rfl rfl (SK rfl rfl rfl rfl rfl (SK rfl rfl rfl rfl rfl (SK rfl rfl rfl rfl rfl (pkV rfl rfl rfl (Qd (Qa ?_))))))))))
  refine Qn rfl (rfl) (Qt (Ql (Qm (Qh (Qa (Qc (Qb [0,1] rfl (mvV rfl rfl (Qk rfl rfl (Qd (Qa (Qq (Qj rfl rfl ?_)))))))))))))
  exact ⟨hE, by rw [← he, QcZ s p (fun h => hj h.1)]⟩
theorem Qac (q : IntKind) (n : Int) (h0 : 0 ≤ n) (h1 : n ≤ 99) : q.wrap n = n := by
 cases q <;> simp [IntKind.wrap, IntKind.bits, IntKind.signed] <;> omega
set_option maxRecDepth 10000 in
theorem lNumber (s : ByteArray) (k : Nat) (w : World) (hs : s.size ≤ 65536) (he : end' s isDigit k = k + 1) (hd : isDigit (bt s k) = true) (hk : k + 1 < s.size) (hl : isLetter (bt s (k + 1)) = false) (hu : Nat.beq (bt s (k + 1)) 95 = false) :
  Calls Tryz.prog 81 #[.string s, .int .i64 k] w (RetX w fun r _ => r = .agg #[.int .i64 2, .string (s.extract k (k + 1)), .int .i64 ((bt s k : Int) - 48), .int .i64 k]) := by
 have hd' : 48 ≤ bt s k ∧ bt s k ≤ 57 := by
  rw [isDigit, Bool.and_eq_true] at hd
  exact ⟨Nat.le_of_ble_eq_true hd.1, Nat.le_of_ble_eq_true hd.2⟩
 refine QD Tryz.func81 rfl rfl (Qc (Qb [0] rfl (AL rfl wu rfl zv130 ?_)))
 intro rb w1 hE hR hrb
 refine Qd (Qa (Qc (Qb [0,1,2,3] rfl (mvV rfl rfl (mvV rfl rfl (C rfl wu rfl rfl Tryz.call78 (lWhile isDigit _ s k _ (by omega) hs Tryz.call80 (fun b w => QaU b w)) ?_))))))
 rintro _ w2 hE2 rfl
 replace hE := hE.trans hE2
 replace hR := hR.ext hE2
 refine Qk rfl rfl (Qd (Qa (Qc (Qc ?_))))
 rw [he]
 refine Qb [0,1,2,3,4,5,6,7,8,9,10,11,12,13,14,15,16,17,18,19,20,21,22,23,24,25,26,27] rfl (mvV rfl rfl (mvV rfl rfl (Vw rfl (Qdn rfl XQ) ?_)))
 refine Qy rfl rfl rfl (mvV rfl rfl (KB 16 true rfl (by simp; omega) (Vg rfl rfl rfl (mv rfl) (Vg rfl rfl rfl (mv rfl) (Vg rfl rfl rfl (ixS (u := (k + 1 : Nat)) rfl rfl XQ (by omega) (by omega)) (C rfl (wg rfl rfl) rfl rfl Tryz.call77 (Xp _ _) ?_))))))
 rintro _ w3 hE3 rfl
 replace hE := hE.trans hE3
 replace hR := hR.ext hE3
 rw [btg hk, hl]
 refine Vg rfl rfl rfl (mv rfl) (KB 21 false rfl (rfl) (Vg rfl rfl rfl (mv rfl) (Vg rfl rfl rfl (mv rfl) (Vg rfl rfl rfl (ixS (u := (k + 1 : Nat)) rfl rfl XQ (by omega) (by omega)) (Vg rfl rfl rfl (eqlK rfl rfl) ?_)))))
 rw [btg hk]
 refine Vg rfl rfl rfl (pk rfl rfl) (pkV rfl rfl rfl (mvV rfl rfl (KB 28 false rfl ((deq (bt s (k + 1)) 95).trans hu) (Vg rfl rfl rfl (mv rfl) (Vg rfl rfl rfl (mv rfl) (Vg rfl rfl rfl (addI rfl rfl) (Vg rfl rfl rfl (Ju rfl rfl) (Vg rfl rfl rfl (mv rfl) (KB 33 false rfl (by simp) ?_)))))))))
 refine SK rfl rfl rfl rfl rfl (SK rfl rfl rfl rfl rfl (SK rfl rfl rfl rfl rfl (SK rfl rfl rfl rfl rfl (Vg rfl rfl rfl (pk rfl rfl) (pkV rfl rfl rfl (Qd (Qa (Qn rfl (rfl) (Qe (Qa (Qc (Qb [0] rfl ?_))))))))))))
 refine Qk rfl rfl (Qd (Qa (Qc (Qc (Qb [0,1,2,3,4] rfl (mvV rfl rfl (mvV rfl rfl (mvV rfl rfl (Vw rfl (slT (u := k) (u' := (k + 1 : Nat)) rfl rfl rfl XQ (by omega) (by omega) (by omega)) ?_)))))))))
 have hrl := hR.lt
 refine RGS rfl wu rfl rfl XQ ?_
 intro ib w4 hE4 hI hib
 replace hE := hE.trans hE4
 replace hR := hR.ext hE4
 refine Qd (Qa (Qf ?_))
 have hts : (s.extract k (k + 1)).size = 1 := by rw [ByteArray.size_extract]; omega
 have htb : ∀ h : 0 < (s.extract k (k + 1)).size, ((s.extract k (k + 1))[0]'h).toNat = bt s k := fun h => by
  rw [bt, dif_pos (by omega)]
  simp only [ByteArray.getElem_eq_getElem_data, ByteArray.data_extract, Array.getElem_extract, Nat.add_zero]
 have hsz := hE.size
 refine Qv (fun p : Nat × Int => [(0, .string s), (1, .int .i64 k), (4, .pointer (some ⟨rb, 0, none⟩)), (5, .int .i64 (k + 1 : Nat)), (46, .pointer (some ⟨ib, 0, none⟩)), (6, .int .i64 p.2)])
  (fun p w' => p.1 ≤ 1 ∧ p.2 = (if p.1 = 0 then 0 else (bt s k : Int) - 48) ∧ Ext w w' ∧ ItS w' ib (s.extract k (k + 1)) p.1 ∧ Blk w' rb 130 #[.int .i64 0, .string ⟨#[]⟩, .int .i64 0, .int .i64 0] ∧ rb < ib ∧ w.heap.size ≤ rb) (fun p => 1 - p.1) (0, 0) ⟨rfl, rfl, rfl, rfl, rfl, rfl, trivial⟩
  ⟨by omega, rfl, hE, hI, hR, by omega, by omega⟩ ?_
 clear hE hI hR
 rintro ⟨j, n⟩ w5 ⟨j1, hn, hE, hI, hR, hri, hrb2⟩
 dsimp only at j1 hn hI
 try dsimp only
 refine Qc ?_
 by_cases hj : j = 0
 ·subst hj
  rw [if_pos rfl] at hn
  subst hn
  refine Qb [0,1] rfl (NXSy (k := 0) rfl wu rfl rfl hI (by omega) (by rw [htb]; omega) nofun ?_)
  intro w6 hg6 hX6 hI6
  rw [htb]
  refine QI rfl rfl rfl (Qd (Qa (Qc (QC rfl (rfl) (Qe (Qa (Qf (Qc (Qb [0,1] rfl (QI rfl rfl rfl (Qk rfl rfl (Qd (Qa (Qc (Qb [0,1,2,3,4,5,6] rfl (mvV rfl rfl ?_))))))))))))))))
  refine Vw rfl (Kx rfl rfl) (mvV rfl rfl (Vw rfl (subK rfl rfl) (Vw rfl (cvK (q := .i64) rfl (by kernel_rfl) (by kernel_rfl)) ?_)))
  rw [Qac .i32 ((bt s k : Int) - 48) (by omega) (by omega), Qac .i64 ((bt s k : Int) - 48) (by omega) (by omega)]
  refine Qw rfl rfl rfl (Qk rfl rfl (Qd (Qa (Qc (Qb [0,1] rfl (mvV rfl rfl (ZA rfl rfl rfl (Qd (Qa (Qn rfl (by simp; omega) (Qe (Qg ?_))))))))))))
  exact Qi (1, 0 * 10 + ((bt s k : Int) - 48)) ⟨rfl, rfl, rfl, rfl, rfl, rfl, trivial⟩ ⟨by omega, by simp, hX6 w (by omega) hE, hI6, hR.grown hg6 (by intro e; have := Option.some.inj e; omega), hri, hrb2⟩ (by simp)
 ·obtain rfl : j = 1 := by omega
  rw [if_neg (by omega)] at hn
  subst hn
  refine Qb [0,1] rfl (NXSn (k := 1) rfl wu rfl rfl hI (by omega) (QI rfl rfl rfl (Qd (Qa (Qc (Qn rfl (rfl) (Qt (Ql (Qm (Qh (Qa (Qc (Qb [0,1,2,3,4,5,6,7] rfl (mvV rfl rfl (mvV rfl rfl (mvV rfl rfl ?_))))))))))))))))
  refine Vw rfl (slT (u := k) (u' := (k + 1 : Nat)) rfl rfl rfl XQ (by omega) (by omega) (by omega)) (mvV rfl rfl (mvV rfl rfl (Vw rfl (bld rfl (Qbc _ _ _ _ rfl rfl rfl rfl)) (STB (vs := [.int .i64 2, .string (s.extract k (k + 1)), .int .i64 ((bt s k : Int) - 48), .int .i64 k]) (cs' := [.int .i64 2, .string (s.extract k (k + 1)), .int .i64 ((bt s k : Int) - 48), .int .i64 k]) rfl wu rfl rfl rfl sv130 nofun (by assumption) (by first | exact oc2 | exact oc3 | exact oc5 | (simp [Value.oneCell']; done)) rfl rfl rfl ?_))))
  intro w7 hg7 hX7 hR7
  refine Qd (Qa (Qq (Zg rfl rfl ag130 hR7 rfl ?_)))
  exact ⟨hX7 w hrb2 hE, rfl⟩
def tcells (t : Tok) : List Value := [.int .i64 t.kind, .string t.text, .int .i64 t.n, .int .i64 t.pos]
theorem exIdx (s : ByteArray) (c : Int) (w : World) : (callFunc 151 #[.string s, .int .u8 c]).run Tryz.prog w = .ok (.value (.int .i64 (firstIdx s c.toNat.toUInt8))) w := by
 rw [run_callFunc_extern (e := Extern.BytealgIndexByte.indexByte) Tryz.func151 (by kernel_rfl) (by kernel_rfl) (by kernel_rfl) (by kernel_rfl)]
 rw [run_indexByte_string]
 rfl
theorem lIdx1 (s : ByteArray) (c : Int) (w : World) : Calls Tryz.prog 113 #[.string s, .int .u8 c] w (RetX w fun r _ => r = .int .i64 (firstIdx s c.toNat.toUInt8)) := by
 refine QD Tryz.func113 rfl rfl (Qc (Qb [0] rfl (Qk rfl rfl (Qd (Qa (Qc (Qb [0,1,2,3] rfl (mvV rfl rfl (mvV rfl rfl (F (v := .int .i64 (firstIdx s c.toNat.toUInt8)) (w' := w) rfl wu rfl rfl (fun a ha => ?_) (fun _ _ => Ext.refl _) ?_))))))))))
 rotate_left
 refine Qk rfl rfl (Qd (Qa (Qq (Qj rfl rfl ?_))))
 ·exact ⟨Ext.refl _, rfl⟩
 ·have h1 := ha.slots 5 _ rfl
  have h2 := ha.slots 6 _ rfl
  simp only [execOp, resolve, List.map_toArray, List.map_cons, List.map_nil, Act.eval, Deferred.ofValue]
  simp [invoke, h1, h2]
  exact exIdx s c w
theorem lIdx (s : ByteArray) (c : Int) (w : World) : Calls Tryz.prog 82 #[.string s, .int .u8 c] w (RetX w fun r _ => r = .int .i64 (firstIdx s c.toNat.toUInt8)) := by
 refine QD Tryz.func82 rfl rfl (Qc (Qb [0] rfl (Qk rfl rfl (Qd (Qa (Qc (Qb [0,1,2,3] rfl (mvV rfl rfl (mvV rfl rfl (C rfl wu rfl rfl Tryz.call113 (lIdx1 s c _) ?_))))))))))
 rintro _ w1 hE rfl
 refine Qk rfl rfl (Qd (Qa (Qq (Qj rfl rfl ?_))))
 exact ⟨hE, rfl⟩
theorem firstSign (b : Nat) (hb : b < 256) : decide (0 ≤ firstIdx ⟨#[40, 41, 91, 93, 44]⟩ ((b : Int)).toNat.toUInt8) = [40, 41, 91, 93, 44].contains b := by
 revert b
 decide +kernel
theorem JF {s : ByteArray} {k e : Nat} (h : e ≤ s.size) : (s.extract k e).size = e - k := by rw [ByteArray.size_extract]; omega
set_option maxRecDepth 10000 in
theorem lScan (s : ByteArray) (ts : List Tok) (w : World) (hs : s.size ≤ 65536) (ht : toks s s.size 0 = some ts) :
  Calls Tryz.prog 42 #[.string s] w (RetX w fun r w' => OwnV w.heap.size w' r 130 4 (ts.map tcells)) := by
 refine QL Tryz.func42 rfl rfl (Qc (Qb [0] rfl (Qk rfl rfl (Qd (Qa (Qc (Qc (Qb [0,1,2] rfl (mvV rfl rfl (Vw rfl (Qdn rfl XQ) ?_))))))))))
 refine ZA rfl rfl rfl (Qd (Qa (Qn rfl (by simp; omega) (Qe (Qa (Qc (Qb [0] rfl (Qk rfl rfl (Qd (Qa (Qc (Qc (Qb [0] rfl (Qk rfl rfl (Qd (Qa (Qf ?_)))))))))))))))))
 refine Qv (fun p : Nat × Value × List Tok × Nat => [(0, .string s), (3, p.2.1), (4, .int .i64 p.1)])
  (fun p w' => p.1 ≤ s.size ∧ Ext w w' ∧ OwnV w.heap.size w' p.2.1 130 4 (p.2.2.1.map tcells) ∧ p.2.2.1.length ≤ p.1 ∧ ∃ rest, toks s p.2.2.2 p.1 = some rest ∧ p.2.2.1 ++ rest = ts) (fun p => s.size - p.1) (0, .slice none 0 0, [], s.size) ⟨rfl, rfl, rfl, trivial⟩
  ⟨by omega, Ext.refl _, OwnV.nil _ _ _ _, by simp, ts, ht, rfl⟩ ?_
 rintro ⟨k, ov, done, f⟩ w1 ⟨k1, hE, ho, hl, rest, hr, hd⟩
 dsimp only at k1 ho hl hr hd
 try dsimp only
 refine Qc (Qc (Qb [0,1,2,3] rfl (mvV rfl rfl (mvV rfl rfl (Vw rfl (Qdn rfl XQ) ?_)))))
 refine Qy rfl rfl rfl (Qd (Qa (Qo rfl ?_ ?_)))
 ·intro hk
  simp at hk
  have hbt := bt_lt s k
  have hkb : Nat.blt k s.size = true := by simpa using hk
  obtain ⟨f, rfl⟩ : ∃ g, f = g + 1 := by
   cases f with
   | zero => rw [toks, if_pos hkb] at hr; cases hr
   | succ g => exact ⟨g, rfl⟩
  rw [toks, if_pos hkb] at hr
  refine Qe (Qa (Qf (Qc (Qc (Qb [0,1,2,3] rfl (mvV rfl rfl (mvV rfl rfl (Vw rfl (ixS (u := k) rfl rfl XQ (by omega) (by omega)) (Qk rfl rfl (Qd (Qa (Qf (Qc ?_)))))))))))))
  rw [btg hk]
  refine Qb [0,1,2,3,4,5,6,7,8,9,10] rfl (mvV rfl rfl (Vw rfl (eqlK rfl rfl) (mvV rfl rfl ?_)))
  refine OR (π1 := [3,4,5]) (π2 := [6,7,8,9,10]) (tc := 23) (tp := 26) rfl rfl rfl (by
    intro _
    refine SK rfl rfl rfl rfl rfl (SK rfl rfl rfl rfl rfl (pkV rfl rfl rfl ?_))
    exact Zx rfl) (by
    intro hg
    simp at hg
    refine Vg rfl rfl rfl (mv rfl) (Vg rfl rfl rfl (eqlK rfl rfl) (pkV rfl rfl rfl ?_))
    exact Zx rfl) ?_
  refine mvV rfl rfl ?_
  refine OR (π1 := [7,8,9]) (π2 := [10]) (tc := 27) (tp := 30) rfl rfl rfl (by
    intro _
    refine SK rfl rfl rfl rfl rfl (SK rfl rfl rfl rfl rfl (pkV rfl rfl rfl ?_))
    exact Zx rfl) (by
    intro hg
    simp at hg
    refine Vg rfl rfl rfl (mv rfl) (Vg rfl rfl rfl (eqlK rfl rfl) (pkV rfl rfl rfl ?_))
    exact Zx rfl) ?_
  refine Qk rfl rfl (Qd (Qa ?_))
  have e1 : (decide ((bt s k : Int) = 32) || decide ((bt s k : Int) = 9) || decide ((bt s k : Int) = 10)) = (Nat.beq (bt s k) 32 || Nat.beq (bt s k) 9 || Nat.beq (bt s k) 10) := by
   rw [← deq, ← deq, ← deq]; rfl
  rw [e1]
  rw [tokAt] at hr
  refine Qo rfl ?_ ?_
  ·intro hc
   rw [if_pos hc] at hr
   refine Qc (Qb [0,1,2] rfl (mvV rfl rfl (Qw rfl rfl rfl (Qk rfl rfl (Qd (Qa (Qt (ZB rfl (Ql (Qh ?_))))))))))
   simp only [Option.toList_none, List.nil_append] at hr
   cases hr' : toks s f (k + 1) with
   | none => rw [hr'] at hr; cases hr
   | some r2 =>
    rw [hr'] at hr
    simp at hr
    exact Qi (k + 1, ov, done, f) ⟨rfl, rfl, rfl, trivial⟩ ⟨by dsimp only; omega, hE, ho, by dsimp only; omega, r2, hr', by rw [hr]; exact hd⟩ (by dsimp only; omega)
  ·intro hc
   rw [hc, if_neg (by simp)] at hr
   refine Qc (Qb [0,1,2] rfl (mvV rfl rfl (C rfl wu rfl rfl Tryz.call77 (Xp (bt s k) _) ?_)))
   rintro _ w2 hE2 rfl
   replace hE := hE.trans hE2
   replace ho := ho.ext hE2
   refine Qk rfl rfl (Qd (Qa (Qo rfl ?_ ?_)))
   ·intro hlt
    rw [if_pos hlt] at hr
    refine Qc (Qb [0,1,2,3] rfl (mvV rfl rfl (mvV rfl rfl (C rfl wu rfl rfl Tryz.call78 (lWhile inName _ s k _ (by omega) hs Tryz.call79 (fun b w => lInName b w)) ?_))))
    rintro _ w3 hE3 rfl
    replace hE := hE.trans hE3
    replace ho := ho.ext hE3
    refine Qk rfl rfl (Qd (Qa (Qc (Qc ?_))))
    have hen := end_le s inName k (by omega)
    have hef := end_first s inName hk (by rw [inName, hlt]; rfl)
    generalize hee : end' s inName k = e at *
    refine Qb [0,1,2,3] rfl (mvV rfl rfl (mvV rfl rfl (Zd rfl rfl rfl (ZA rfl rfl rfl (Qd (Qa ?_))))))
    have h16 : ¬ (k + 16 < e) := fun h => by
     rw [if_pos (by simpa using h)] at hr; cases hr
    rw [if_neg (by simpa using h16)] at hr
    refine Qn rfl (by simp; omega) (Qe (Qa (Qb [0,1,2,3,4,5,6,7,8,9] rfl (mvV rfl rfl (mvV rfl rfl (mvV rfl rfl (mvV rfl rfl (Vw rfl (slT (u := k) (u' := e) rfl rfl rfl XQ (by omega) (by omega) (by omega)) (mvV rfl rfl (Vw rfl (bld rfl (KR _ _ _ rfl rfl rfl)) ?_))))))))))
    refine BSV (r := tcells ⟨1, s.extract k e, 0, k⟩) rfl wu rfl rfl QaD rfl (by decide) (by decide) ?_
    intro tv w4 hE4 htv
    replace hE := hE.trans hE4
    replace ho := ho.ext hE4
    refine APV (r := tcells ⟨1, s.extract k e, 0, k⟩) rfl wu rfl rfl rfl QaD rfl (by decide) nofun ?_ (ho := ho) (hB := hE.size) (h1c := by intro u hu; simp [tcells] at hu; rcases hu with rfl | rfl | rfl | rfl <;> rfl) (hs := htv) (hE := Ext.refl _) (hlen := by simp; omega) (hlen1 := by simp; omega)
    intro ov3 w5 hg5 hX5 ho3 hb5
    replace hE := hX5 w (Nat.le_refl _) hE
    refine Qk rfl rfl (Qd (Qg (Qa ?_)))
    have hln : ((done.map tcells ++ [tcells ⟨1, s.extract k e, 0, k⟩]).length : Int) = done.length + 1 := by simp
    have hgl : (done.map tcells ++ [tcells ⟨1, s.extract k e, 0, k⟩]).getD ((((done.map tcells ++ [tcells ⟨1, s.extract k e, 0, k⟩]).length : Int) - 1)).toNat [] = tcells ⟨1, s.extract k e, 0, k⟩ := by rw [hln]; simp
    have htx := JF (s := s) (k := k) (e := e) (by omega)
    cases hr' : toks s f e with
    | none => simp [hr'] at hr
    | some rest' =>
     have hd' : rest = ⟨1, s.extract k e, 0, k⟩ :: rest' := by simpa [hr'] using hr.symm
     rw [hd'] at hd
     refine Qb [0,1,2,3,4,5,6,7,8,9,10] rfl (mvV rfl rfl (mvV rfl rfl (mvV rfl rfl (Vw rfl (QaT rfl QaD (OwnV.read ho3)) (Zd rfl rfl rfl (Vw rfl (KU rfl rfl QaD (OwnV.read ho3) (by rw [hln]; omega) (by rw [hln]; omega)) (Vw rfl (fadE rfl XI (OwnV.read ho3) (by rw [hln]; omega) (by rw [hln]; omega)) (Vw rfl (ldF rfl na9 (by rw [hgl]; rfl) (OwnV.read ho3) (Ext.refl _) (by rw [hln]; omega) (by rw [hln]; omega)) (Vw rfl (Qdn rfl XQ) ?_)))))))))
     rw [htx]
     refine Qw rfl rfl rfl (Qk rfl rfl (Qd (Qg ?_)))
     rw [show (k : Int) + ((e - k : Nat) : Int) = ((e : Nat) : Int) by omega]
     exact Qi (e, ov3, done ++ [⟨1, s.extract k e, 0, k⟩], f) ⟨rfl, rfl, rfl, trivial⟩ ⟨by dsimp only; omega, hE, by simpa using ho3, by dsimp only; rw [List.length_append]; simp; omega, rest', hr', by simpa using hd⟩ (by dsimp only; omega)
   ·intro hlt
    rw [hlt, if_neg (by simp)] at hr
    refine Qc (Qb [0,1,2] rfl (mvV rfl rfl (C rfl wu rfl rfl Tryz.call80 (QaU (bt s k) _) ?_)))
    rintro _ w3 hE3 rfl
    replace hE := hE.trans hE3
    replace ho := ho.ext hE3
    refine Qk rfl rfl (Qd (Qa (Qo rfl ?_ ?_)))
    ·intro hdg
     rw [if_pos hdg] at hr
     by_cases hq : (Nat.beq (end' s isDigit k) (k + 1) && Nat.blt (k + 1) s.size && !isLetter (bt s (k + 1)) && !Nat.beq (bt s (k + 1)) 95) = true
     ·rw [if_pos hq] at hr
      simp only [Bool.and_eq_true, Bool.not_eq_true'] at hq
      obtain ⟨⟨⟨q1, q2⟩, q3⟩, q4⟩ := hq
      have q2' : k + 1 < s.size := by simpa using q2
      refine Qb [0,1,2,3,4,5,6] rfl (mvV rfl rfl (mvV rfl rfl (mvV rfl rfl (C rfl wu rfl rfl Tryz.call81 (lNumber s k _ hs (Nat.eq_of_beq_eq_true q1) hdg q2' q3 q4) ?_))))
      rintro _ w4 hE4 rfl
      replace hE := hE.trans hE4
      replace ho := ho.ext hE4
      refine BSV (r := tcells ⟨2, s.extract k (k + 1), (bt s k : Int) - 48, k⟩) rfl wu rfl rfl QaD rfl (by decide) (by decide) ?_
      intro tv w5 hE5 htv
      replace hE := hE.trans hE5
      replace ho := ho.ext hE5
      refine APV (r := tcells ⟨2, s.extract k (k + 1), (bt s k : Int) - 48, k⟩) rfl wu rfl rfl rfl QaD rfl (by decide) nofun ?_ (ho := ho) (hB := hE.size) (h1c := by intro u hu; simp [tcells] at hu; rcases hu with rfl | rfl | rfl | rfl <;> rfl) (hs := htv) (hE := Ext.refl _) (hlen := by simp; omega) (hlen1 := by simp; omega)
      intro ov3 w6 hg6 hX6 ho3 hb6
      replace hE := hX6 w (Nat.le_refl _) hE
      refine Qk rfl rfl (Qd (Qg (Qa ?_)))
      have hln : ((done.map tcells ++ [tcells ⟨2, s.extract k (k + 1), (bt s k : Int) - 48, k⟩]).length : Int) = done.length + 1 := by simp
      have hgl : (done.map tcells ++ [tcells ⟨2, s.extract k (k + 1), (bt s k : Int) - 48, k⟩]).getD ((((done.map tcells ++ [tcells ⟨2, s.extract k (k + 1), (bt s k : Int) - 48, k⟩]).length : Int) - 1)).toNat [] = tcells ⟨2, s.extract k (k + 1), (bt s k : Int) - 48, k⟩ := by rw [hln]; simp
      have htx := JF (s := s) (k := k) (e := k + 1) (by omega)
      cases hr' : toks s f (k + 1) with
      | none => simp [hr'] at hr
      | some rest' =>
       have hd' : rest = ⟨2, s.extract k (k + 1), (bt s k : Int) - 48, k⟩ :: rest' := by simpa [hr'] using hr.symm
       rw [hd'] at hd
       refine Qb [0,1,2,3,4,5,6,7,8,9,10] rfl (mvV rfl rfl (mvV rfl rfl (mvV rfl rfl (Vw rfl (QaT rfl QaD (OwnV.read ho3)) (Zd rfl rfl rfl (Vw rfl (KU rfl rfl QaD (OwnV.read ho3) (by rw [hln]; omega) (by rw [hln]; omega)) (Vw rfl (fadE rfl XI (OwnV.read ho3) (by rw [hln]; omega) (by rw [hln]; omega)) (Vw rfl (ldF rfl na9 (by rw [hgl]; rfl) (OwnV.read ho3) (Ext.refl _) (by rw [hln]; omega) (by rw [hln]; omega)) (Vw rfl (Qdn rfl XQ) ?_)))))))))
       rw [htx]
       refine Qw rfl rfl rfl (Qk rfl rfl (Qd (Qg ?_)))
       rw [show (k : Int) + ((k + 1 - k : Nat) : Int) = ((k + 1 : Nat) : Int) by omega]
       exact Qi (k + 1, ov3, done ++ [⟨2, s.extract k (k + 1), (bt s k : Int) - 48, k⟩], f) ⟨rfl, rfl, rfl, trivial⟩ ⟨by dsimp only; omega, hE, by simpa using ho3, by dsimp only; rw [List.length_append]; simp; omega, rest', hr', by simpa using hd⟩ (by dsimp only; omega)
     ·rw [if_neg hq] at hr; cases hr
    ·intro hdg
     rw [hdg, if_neg (by simp)] at hr
     refine Qc (Qb [0,1,2,3] rfl (mvV rfl rfl (C rfl wu rfl rfl Tryz.call82 (lIdx _ _ _) ?_)))
     rintro _ w4 hE4 rfl
     replace hE := hE.trans hE4
     replace ho := ho.ext hE4
     refine Vw rfl (Xb rfl rfl) (Qk rfl rfl (Qd (Qa ?_)))
     rw [firstSign _ hbt]
     by_cases hsg : [40, 41, 91, 93, 44].contains (bt s k) = true
     ·rw [if_pos hsg] at hr
      refine QC rfl (hsg) (Qb [0,1,2,3,4,5,6,7,8,9,10] rfl (mvV rfl rfl (mvV rfl rfl (mvV rfl rfl (mvV rfl rfl (Qw rfl rfl rfl (Vw rfl (slT (u := k) (u' := (k + 1 : Nat)) rfl rfl rfl XQ (by omega) (by omega) (by omega)) (mvV rfl rfl (Vw rfl (bld rfl (KR _ _ _ rfl rfl rfl)) ?_)))))))))
      refine BSV (r := tcells ⟨3, s.extract k (k + 1), 0, k⟩) rfl wu rfl rfl QaD rfl (by decide) (by decide) ?_
      intro tv w5 hE5 htv
      replace hE := hE.trans hE5
      replace ho := ho.ext hE5
      refine APV (r := tcells ⟨3, s.extract k (k + 1), 0, k⟩) rfl wu rfl rfl rfl QaD rfl (by decide) nofun ?_ (ho := ho) (hB := hE.size) (h1c := by intro u hu; simp [tcells] at hu; rcases hu with rfl | rfl | rfl | rfl <;> rfl) (hs := htv) (hE := Ext.refl _) (hlen := by simp; omega) (hlen1 := by simp; omega)
      intro ov3 w6 hg6 hX6 ho3 hb6
      replace hE := hX6 w (Nat.le_refl _) hE
      refine Qk rfl rfl (Qd (Qg (Qa ?_)))
      have hln : ((done.map tcells ++ [tcells ⟨3, s.extract k (k + 1), 0, k⟩]).length : Int) = done.length + 1 := by simp
      have hgl : (done.map tcells ++ [tcells ⟨3, s.extract k (k + 1), 0, k⟩]).getD ((((done.map tcells ++ [tcells ⟨3, s.extract k (k + 1), 0, k⟩]).length : Int) - 1)).toNat [] = tcells ⟨3, s.extract k (k + 1), 0, k⟩ := by rw [hln]; simp
      have htx := JF (s := s) (k := k) (e := k + 1) (by omega)
      cases hr' : toks s f (k + 1) with
      | none => simp [hr'] at hr
      | some rest' =>
       have hd' : rest = ⟨3, s.extract k (k + 1), 0, k⟩ :: rest' := by simpa [hr'] using hr.symm
       rw [hd'] at hd
       refine Qb [0,1,2,3,4,5,6,7,8,9,10] rfl (mvV rfl rfl (mvV rfl rfl (mvV rfl rfl (Vw rfl (QaT rfl QaD (OwnV.read ho3)) (Zd rfl rfl rfl (Vw rfl (KU rfl rfl QaD (OwnV.read ho3) (by rw [hln]; omega) (by rw [hln]; omega)) (Vw rfl (fadE rfl XI (OwnV.read ho3) (by rw [hln]; omega) (by rw [hln]; omega)) (Vw rfl (ldF rfl na9 (by rw [hgl]; rfl) (OwnV.read ho3) (Ext.refl _) (by rw [hln]; omega) (by rw [hln]; omega)) (Vw rfl (Qdn rfl XQ) ?_)))))))))
       rw [htx]
       refine Qw rfl rfl rfl (Qk rfl rfl (Qd (Qg ?_)))
       rw [show (k : Int) + ((k + 1 - k : Nat) : Int) = ((k + 1 : Nat) : Int) by omega]
       exact Qi (k + 1, ov3, done ++ [⟨3, s.extract k (k + 1), 0, k⟩], f) ⟨rfl, rfl, rfl, trivial⟩ ⟨by dsimp only; omega, hE, by simpa using ho3, by dsimp only; rw [List.length_append]; simp; omega, rest', hr', by simpa using hd⟩ (by dsimp only; omega)
     ·rw [if_neg hsg] at hr; cases hr
 ·intro hk
  simp at hk
  have hr2 : rest = [] := by
   have hn : ¬ Nat.blt k s.size = true := by simp; omega
   cases f <;> rw [toks, if_neg hn] at hr <;> exact (Option.some.inj hr).symm
  rw [hr2, List.append_nil] at hd
  refine Qt (Ql (Qm (Qh (Qa (Qc (Qb [0,1] rfl (mvV rfl rfl (Qk rfl rfl (Qd (Qa (Qq (Qj rfl rfl ?_))))))))))))
  exact ⟨hE, by rw [← hd]; exact ho⟩
end Go.Proofs.YtcfbigmjjpknfaaGreatDoor
