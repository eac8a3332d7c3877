/- DiskAll: what the two disks hold, in plain lists; what stands where in memory beside them. No conditions beyond those that are named. -/
import Derived.Test.YtihmfccpgahmaaaDkAll1
namespace Go.Proofs.Ytihmfccpgahmaaa.Dk
open Go Go.RowKit Go.Proofs.YtihmfccpgahmaaaW.PrintWords Go.Proofs.YtihmfccpgahmaaaW.PrintMore Go.Proofs.YtihmfccpgahmaaaW.PrintLast Go.Proofs.Ytihmfccpgahmaaa.Str
set_option linter.unusedVariables false
set_option linter.unusedSimpArgs false
theorem step_f0 {M : DA} (h : M.fuse = 0) : M.step = { M with work := wrap64 (M.work + 1) } := by
  unfold DA.step
  rw [if_neg (by omega), if_neg (by omega)]
namespace DiskAll
def F8 : List Bool := List.replicate 8 false
def lays (s : List (List Int)) (l : List (Int × List Int)) : List (List Int) := l.foldl (fun s x => s.set x.1.toNat x.2) s
theorem lays_len (l : List (Int × List Int)) : ∀ s, (lays s l).length = s.length := by
  induction l with
  | nil => intro s; rfl
  | cons x l ih => intro s; exact (ih _).trans List.length_set
theorem F8_set (i : Nat) : F8.set i false = F8 := List.set_replicate_self
theorem fold_lay (l : List (Int × List Int)) : ∀ M : DA, M.bad = F8 → l.foldl DA.lay M = { M with safe := lays M.safe l } := by
  induction l with
  | nil => intro M _; rfl
  | cons x l ih =>
    intro M h
    have hb : (M.lay x).bad = F8 := by show M.bad.set _ false = F8; rw [h]; exact F8_set _
    show l.foldl DA.lay (M.lay x) = _
    rw [ih _ hb]
    show ({ M with bad := M.bad.set x.1.toNat false, safe := lays (M.safe.set x.1.toNat x.2) l } : DA) = _
    rw [h, F8_set, ← h]
    rfl
structure InvA (n : Nat) (A : DA) : Prop where
  n8 : A.now.length = 8
  s8 : A.safe.length = 8
  tn : A.torn = F8
  ba : A.bad = F8
  fu : A.fuse = 0
  dn : A.down = false
  ly : lays A.safe A.wait = A.now
  wl : A.wait.length = n
structure InvB (sf : List (List Int)) (n : Nat) (B : DA) : Prop where
  n8 : B.now.length = 8
  s8 : sf.length = 8
  tn : B.torn = F8
  ba : B.bad = F8
  fu : B.fuse = 0
  dn : B.down = false
  sa : B.safe = sf
  wl : B.wait.length ≤ n
theorem wrE_iff {M : DA} (hf : M.fuse = 0) (i : Int) (n : Nat) (hn : n ≤ 512) : M.wrE i n = 0 ↔ M.ask i = 0 := by
  unfold DA.wrE DA.stepE
  rw [if_neg (show ¬ M.fuse = 1 by omega)]
  constructor
  · intro h
    split at h
    · cases h
    · split at h <;> assumption
  · intro h
    rw [h, if_neg (by omega), if_pos rfl]
theorem InvA.wr {n : Nat} {A : DA} (h : InvA n A) (i : Int) (l : List Int) (hl : l.length ≤ 512) (he : A.wrE i l.length = 0) : InvA (n + 1) (A.wr i l) := by
  have ha := (wrE_iff h.fu i _ hl).1 he
  unfold DA.wr
  rw [if_pos ⟨ha, hl⟩, step_f0 h.fu]
  exact {
    n8 := by show (A.now.set _ _).length = 8; rw [List.length_set]; exact h.n8
    s8 := h.s8
    tn := by show A.torn.set _ false = F8; rw [h.tn]; exact F8_set _
    ba := h.ba
    fu := h.fu
    dn := h.dn
    ly := by
      show lays A.safe (A.wait ++ [(i, l)]) = A.now.set i.toNat l
      unfold lays
      rw [List.foldl_append]
      show (lays A.safe A.wait).set i.toNat l = _
      rw [h.ly]
    wl := by show (A.wait ++ [(i, l)]).length = n + 1; rw [List.length_append, h.wl]; rfl }
theorem wr_no {M : DA} (hf : M.fuse = 0) (i : Int) (l : List Int) (hl : l.length ≤ 512) (he : M.wrE i l.length ≠ 0) : M.wr i l = M := by
  unfold DA.wr
  rw [if_neg (fun h => he ((wrE_iff hf i _ hl).2 h.1))]
theorem sy_eq {M : DA} (hf : M.fuse = 0) (hd : M.down = false) (hb : M.bad = F8) : M.sy = { M with work := wrap64 (M.work + 1), safe := lays M.safe M.wait, wait := [] } := by
  unfold DA.sy
  rw [if_neg (by rw [hd]; decide), if_neg (by omega), step_f0 hf]
  exact congrArg (fun d : DA => ({ d with wait := [] } : DA)) (fold_lay M.wait { M with work := wrap64 (M.work + 1) } hb)
theorem InvA.sy {n : Nat} {A : DA} (h : InvA n A) : InvA 0 A.sy := by
  rw [sy_eq h.fu h.dn h.ba]
  exact {
    n8 := h.n8
    s8 := (lays_len _ _).trans h.s8
    tn := h.tn
    ba := h.ba
    fu := h.fu
    dn := h.dn
    ly := h.ly
    wl := rfl }
theorem on_none (M : DA) (k : Nat) : DA.onK [] (-1) M k = M := by
  induction k with
  | zero => rfl
  | succ k ih =>
    show DA.onP [] (-1) (DA.onK [] (-1) M k) k _ = M
    rw [ih]
    unfold DA.onP
    rw [if_neg (by simp), if_neg (by omega)]
theorem InvB.on {sf : List (List Int)} {n : Nat} {B : DA} (h : InvB sf n B) : InvB sf 0 (B.on [] (-1)) ∧ (B.on [] (-1)).now = sf := by
  unfold DA.on
  rw [on_none]
  exact ⟨{
    n8 := by show B.safe.length = 8; rw [h.sa]; exact h.s8
    s8 := h.s8
    tn := h.ba
    ba := h.ba
    fu := rfl
    dn := rfl
    sa := h.sa
    wl := Nat.le_refl _ }, h.sa⟩
theorem InvB.sy {sf : List (List Int)} {n : Nat} {B : DA} (h : InvB sf n B) : ∃ sf', InvB sf' 0 B.sy := by
  rw [sy_eq h.fu h.dn h.ba]
  exact ⟨lays sf B.wait, {
    n8 := h.n8
    s8 := (lays_len _ _).trans h.s8
    tn := h.tn
    ba := h.ba
    fu := h.fu
    dn := h.dn
    sa := by show lays B.safe B.wait = _; rw [h.sa]
    wl := Nat.le_refl _ }⟩
theorem InvB.wr {sf : List (List Int)} {n : Nat} {B : DA} (h : InvB sf n B) (i : Int) (l : List Int) : InvB sf (n + 1) (B.wr i l) := by
  unfold DA.wr
  split
  · rw [step_f0 h.fu]
    exact {
      n8 := by show (B.now.set _ _).length = 8; rw [List.length_set]; exact h.n8
      s8 := h.s8
      tn := by show B.torn.set _ false = F8; rw [h.tn]; exact F8_set _
      ba := h.ba
      fu := h.fu
      dn := h.dn
      sa := h.sa
      wl := by show (B.wait ++ [(i, l)]).length ≤ n + 1; rw [List.length_append]; have := h.wl; simp; omega }
  · exact { h with wl := Nat.le_succ_of_le h.wl }
theorem InvB.up {sf : List (List Int)} {n m : Nat} {B : DA} (h : InvB sf n B) (hm : n ≤ m) : InvB sf m B := { h with wl := Nat.le_trans h.wl hm }
theorem F8_rd (i : Nat) : rdOf false F8 (i : Int) = false := by
  unfold rdOf F8
  rw [Int.toNat_natCast, List.getD_eq_getElem?_getD, List.getElem?_replicate]
  split <;> rfl
theorem rd_8 {M : DA} (hn : M.now.length = 8) (hd : M.down = false) (ht : M.torn = F8) (i : Nat) (hi : i < 8) : M.rdE (i : Int) = 0 ∧ M.rdB (i : Int) = wholeF (rdOf [] M.now (i : Int)) := by
  have ha : M.ask (i : Int) = 0 := by
    unfold DA.ask
    rw [hn, if_neg (by omega), if_neg (by rw [hd]; decide)]
  have he : M.rdE (i : Int) = 0 := by
    unfold DA.rdE
    rw [if_pos ha, ht, F8_rd]
    rfl
  refine ⟨he, ?_⟩
  unfold DA.rdB
  rw [if_pos he]
def allS (sf : List (List Int)) : List ByteArray := (List.range 8).map (fun (k : Nat) => strOfNums (wholeF (rdOf [] sf (k : Int))))
theorem allS_len (sf : List (List Int)) : (allS sf).length = 8 := by simp [allS]
theorem InvB.all {sf : List (List Int)} {n : Nat} {B : DA} (h : InvB sf n B) (hn : B.now = sf) : allF B 8 = allS sf := by
  unfold allF allS
  refine List.map_congr_left (fun k hk => ?_)
  rw [(rd_8 h.n8 h.dn h.tn k (List.mem_range.1 hk)).2, hn]
/-- All that waits stays. -/
theorem onK_all (M : DA) (n : Nat) (hn : M.wait.length = n) (hb : M.bad = F8) : ∀ k, k ≤ n → DA.onK (List.replicate n true) 0 M k = { M with safe := lays M.safe (M.wait.take k) } := by
  intro k
  induction k with
  | zero => intro _; rfl
  | succ k ih =>
    intro hk
    show DA.onP (List.replicate n true) 0 (DA.onK (List.replicate n true) 0 M k) k (M.wait.getD k (0, [])) = _
    rw [ih (by omega)]
    have hg : (List.replicate n true).getD k false = true := by
      rw [List.getD_eq_getElem?_getD, List.getElem?_replicate, if_pos (by omega)]
      rfl
    unfold DA.onP
    rw [if_pos hg]
    have hlt : k < M.wait.length := by omega
    have hx : M.wait.getD k (0, []) = M.wait[k] := by rw [List.getD_eq_getElem?_getD, List.getElem?_eq_getElem hlt]; rfl
    rw [hx, List.take_succ_eq_append_getElem hlt]
    unfold DA.lay lays
    rw [List.foldl_append]
    show ({ M with safe := (lays M.safe (M.wait.take k)).set M.wait[k].1.toNat M.wait[k].2, bad := M.bad.set M.wait[k].1.toNat false } : DA) = _
    rw [hb, F8_set, ← hb]
    rfl
theorem InvA.on {n : Nat} {A : DA} (h : InvA n A) : (A.off.on (List.replicate n true) 0).now = A.now ∧ (A.off.on (List.replicate n true) 0).torn = F8 ∧ (A.off.on (List.replicate n true) 0).down = false ∧ (A.off.on (List.replicate n true) 0).wait = [] := by
  have e := onK_all A.off n h.wl h.ba n (Nat.le_refl _)
  have hw : A.off.wait.length = n := h.wl
  unfold DA.on
  rw [hw, e]
  refine ⟨?_, h.ba, rfl, rfl⟩
  show lays A.safe (A.wait.take n) = A.now
  rw [← h.wl, List.take_length, h.ly]
theorem new_A : InvA 0 (DA.new (newN 8).toNat) := ⟨rfl, rfl, rfl, rfl, rfl, rfl, rfl, rfl⟩
theorem new_B : InvB (List.replicate 8 []) 0 (DA.new (newN 8).toNat) ∧ (DA.new (newN 8).toNat).now = List.replicate 8 [] := ⟨⟨rfl, rfl, rfl, rfl, rfl, rfl, rfl, Nat.le_refl _⟩, rfl⟩

theorem allF_rd (M : DA) (j : Nat) (hj : j < 8) : rdOf ByteArray.empty (allF M 8) (j : Int) = strOfNums (M.rdB (j : Int)) := by
  unfold rdOf allF
  rw [Int.toNat_natCast, List.getD_eq_getElem?_getD, List.getElem?_map, List.getElem?_range hj]
  rfl
/-! What stands in memory. -/
structure Two (w0 w : World) (g1 g2 kb : Nat) (A B : DA) (vk vs : Value) (n : Nat) (sr : List ByteArray) (S1 S2 : Nat → Prop) : Prop where
  a : St w0 w g1 S1 A
  b : St w0 w g2 S2 B
  ab : ∀ k, S1 k → ¬ S2 k
  box : w.heap[kb]? = some (.cells #[.pointer (some ⟨g2, 0, none⟩)] 24 (0, 0))
  b1 : ¬ S1 kb
  b2 : ¬ S2 kb
  kp : Kd.bool.R 4 w w0.heap.size (fun k => ¬ S1 k ∧ ¬ S2 k ∧ k ≠ kb) vk (List.replicate n true)
  sf : Kd.string.R 9 w w0.heap.size (fun k => ¬ S1 k ∧ ¬ S2 k ∧ k ≠ kb ∧ some k ≠ vk.ownBlock) vs sr
section
variable {w0 w W : World} {g1 g2 kb n : Nat} {A B A' B' : DA} {vk vs v1 : Value} {sr sr' : List ByteArray} {S1 S2 S' : Nat → Prop}
theorem Two.below (h : Two w0 w g1 g2 kb A B vk vs n sr S1 S2) (hb : Below w.heap.size w W) : Two w0 W g1 g2 kb A B vk vs n sr S1 S2 where
  a := h.a.below hb
  b := h.b.below hb
  ab := h.ab
  box := (hb.block kb (blk_lt h.box)).trans h.box
  b1 := h.b1
  b2 := h.b2
  kp := Kd.R_below h.kp hb
  sf := Kd.R_below h.sf hb
theorem Two.callA (h : Two w0 w g1 g2 kb A B vk vs n sr S1 S2) (hk : Kept w W S1) (ha : St w0 W g1 S' A') (hs : ∀ k, S' k → S1 k ∨ w.heap.size ≤ k) : Two w0 W g1 g2 kb A' B vk vs n sr S' S2 :=
  have old : ∀ k, ¬ S1 k → k < w.heap.size → ¬ S' k := fun k h1 h2 h3 => (hs k h3).elim h1 (fun h4 => by omega)
  { a := ha
    b := ⟨h.b.I.kept hk (fun k h2 h1 => h.ab k h1 h2), ha.B⟩
    ab := fun k h1 h2 => (hs k h1).elim (fun h3 => h.ab k h3 h2) (fun h3 => by have := (h.b.lt k h2).2; omega)
    box := lit_kept h.box hk h.b1
    b1 := old kb h.b1 (blk_lt h.box)
    b2 := h.b2
    kp := R_ok (Kd.R_step h.kp (fun k hq hlt => hk.block k hlt hq.1)) (fun k hq => ⟨old k (h.kp.1 k hq).1 (Kd.R_lt h.kp k hq), (h.kp.1 k hq).2⟩)
    sf := R_ok (Kd.R_step h.sf (fun k hq hlt => hk.block k hlt hq.1)) (fun k hq => ⟨old k (h.sf.1 k hq).1 (Kd.R_lt h.sf k hq), (h.sf.1 k hq).2⟩) }
theorem Two.callB (h : Two w0 w g1 g2 kb A B vk vs n sr S1 S2) (hk : Kept w W S2) (hb : St w0 W g2 S' B') (hs : ∀ k, S' k → S2 k ∨ w.heap.size ≤ k) : Two w0 W g1 g2 kb A B' vk vs n sr S1 S' :=
  have old : ∀ k, ¬ S2 k → k < w.heap.size → ¬ S' k := fun k h1 h2 h3 => (hs k h3).elim h1 (fun h4 => by omega)
  { a := ⟨h.a.I.kept hk h.ab, hb.B⟩
    b := hb
    ab := fun k h1 h2 => (hs k h2).elim (fun h3 => h.ab k h1 h3) (fun h3 => by have := (h.a.lt k h1).2; omega)
    box := lit_kept h.box hk h.b2
    b1 := h.b1
    b2 := old kb h.b2 (blk_lt h.box)
    kp := R_ok (Kd.R_step h.kp (fun k hq hlt => hk.block k hlt hq.2.1)) (fun k hq => ⟨(h.kp.1 k hq).1, old k (h.kp.1 k hq).2.1 (Kd.R_lt h.kp k hq), (h.kp.1 k hq).2.2⟩)
    sf := R_ok (Kd.R_step h.sf (fun k hq hlt => hk.block k hlt hq.2.1)) (fun k hq => ⟨(h.sf.1 k hq).1, old k (h.sf.1 k hq).2.1 (Kd.R_lt h.sf k hq), (h.sf.1 k hq).2.2⟩) }
/-- A truth more is kept. -/
theorem Two.append (h : Two w0 w g1 g2 kb A B vk vs n sr S1 S2) (hR : Kd.bool.R 4 W w0.heap.size (fun k => ¬ S1 k ∧ ¬ S2 k ∧ k ≠ kb) v1 (List.replicate n true ++ [true])) (hB : Below w0.heap.size w0 W) (hg : w.grownBy W vk.ownBlock) (hat : v1.ownBlock = vk.ownBlock ∨ ∃ b, v1.ownBlock = some b ∧ w.heap.size ≤ b) : Two w0 W g1 g2 kb A B v1 vs (n + 1) sr S1 S2 :=
  have ne : ∀ k, some k ≠ vk.ownBlock → k < w.heap.size → some k ≠ v1.ownBlock := fun k h1 h2 h3 => by
    rcases hat with h4 | ⟨b, h4, h5⟩
    · exact h1 (h3.trans h4)
    · rw [h4] at h3
      injection h3 with h3
      omega
  { a := ⟨h.a.I.step hg.size (fun k hk hlt => hg.block k hlt (fun he => (h.kp.1 k he.symm).1 hk)), hB⟩
    b := ⟨h.b.I.step hg.size (fun k hk hlt => hg.block k hlt (fun he => (h.kp.1 k he.symm).2.1 hk)), hB⟩
    ab := h.ab
    box := (hg.block kb (blk_lt h.box) (fun he => (h.kp.1 kb he.symm).2.2 rfl)).trans h.box
    b1 := h.b1
    b2 := h.b2
    kp := by rw [show List.replicate (n + 1) true = List.replicate n true ++ [true] from List.replicate_succ']; exact hR
    sf := R_ok (Kd.R_grown h.sf hg (fun k hk => hk.2.2.2)) (fun k hq => ⟨(h.sf.1 k hq).1, (h.sf.1 k hq).2.1, (h.sf.1 k hq).2.2.1, ne k (h.sf.1 k hq).2.2.2 (Kd.R_lt h.sf k hq)⟩) }
/-- What was read anew, nothing is kept. -/
theorem Two.anew (h : Two w0 w g1 g2 kb A B vk vs n sr S1 S2) (hR : Kd.string.R 9 W w.heap.size (fun _ => True) v1 sr') (hb : Below w.heap.size w W) : Two w0 W g1 g2 kb A B (.slice none 0 0) v1 0 sr' S1 S2 where
  a := h.a.below hb
  b := h.b.below hb
  ab := h.ab
  box := (hb.block kb (blk_lt h.box)).trans h.box
  b1 := h.b1
  b2 := h.b2
  kp := Kd.R_nil _ _ _ _ _
  sf := R_ok (Kd.R_lower hR h.a.B.size) (fun k hq => by
    have hge := Kd.R_base hR k hq
    refine ⟨fun h1 => ?_, fun h1 => ?_, fun h1 => ?_, fun h1 => by simp [Value.ownBlock] at h1⟩
    · have := (h.a.lt k h1).2; omega
    · have := (h.b.lt k h1).2; omega
    · have := blk_lt h.box; omega)
/-- What was read anew. -/
theorem Two.fresh (h : Two w0 w g1 g2 kb A B vk vs n sr S1 S2) (hR : Kd.string.R 9 W w.heap.size (fun _ => True) v1 sr') (hb : Below w.heap.size w W) : Two w0 W g1 g2 kb A B vk v1 n sr' S1 S2 where
  a := h.a.below hb
  b := h.b.below hb
  ab := h.ab
  box := (hb.block kb (blk_lt h.box)).trans h.box
  b1 := h.b1
  b2 := h.b2
  kp := Kd.R_below h.kp hb
  sf := R_ok (Kd.R_lower hR h.a.B.size) (fun k hq => by
    have hge := Kd.R_base hR k hq
    refine ⟨fun h1 => ?_, fun h1 => ?_, fun h1 => ?_, fun h1 => ?_⟩
    · have := (h.a.lt k h1).2; omega
    · have := (h.b.lt k h1).2; omega
    · have := blk_lt h.box; omega
    · have := Kd.R_lt h.kp k h1.symm; omega)
theorem two_begin {w1 w2 : World} (ha : St w0 w1 g1 S1 A) (hb : St w0 w2 g2 S2 B) (hbel : Below w1.heap.size w1 w2) (hs2 : ∀ k, S2 k → w1.heap.size ≤ k) :
    Two w0 (((w2.alloc (.cells #[.pointer (some ⟨g2, 0, none⟩)] 24)).alloc (.cells #[] 4)).alloc (.cells #[] 9)) g1 g2 w2.heap.size A B (.slice (some ⟨w2.heap.size + 1, 0, none⟩) 0 0) (.slice none 0 0) 0 [] S1 S2 := by
  have b1 : Below w2.heap.size w2 (w2.alloc (.cells #[.pointer (some ⟨g2, 0, none⟩)] 24)) := below_alloc (Below.refl _ _) _
  have b2 := below_alloc (Below.refl (w2.alloc (.cells #[.pointer (some ⟨g2, 0, none⟩)] 24)).heap.size (w2.alloc (.cells #[.pointer (some ⟨g2, 0, none⟩)] 24))) (.cells #[] 4)
  have b3 := below_alloc (Below.refl ((w2.alloc (.cells #[.pointer (some ⟨g2, 0, none⟩)] 24)).alloc (.cells #[] 4)).heap.size ((w2.alloc (.cells #[.pointer (some ⟨g2, 0, none⟩)] 24)).alloc (.cells #[] 4))) (.cells #[] 9)
  have hbl := blk_new w2 (.cells #[.pointer (some ⟨g2, 0, none⟩)] 24)
  have n1 : ¬ S1 w2.heap.size := fun h => by have := (ha.lt _ h).2; have := hbel.size; omega
  have n2 : ¬ S2 w2.heap.size := fun h => by have := (hb.lt _ h).2; omega
  have hk := lit_R (enc := Value.bool) (h1 := fun _ => rfl) (base := w0.heap.size) (e := 4) (w2.alloc (.cells #[.pointer (some ⟨g2, 0, none⟩)] 24)) (Nat.le_trans hb.B.size b1.size)
  rw [show (w2.alloc (.cells #[.pointer (some ⟨g2, 0, none⟩)] 24)).heap.size = w2.heap.size + 1 by simp] at hk
  exact {
    a := ((((ha.below hbel).below b1).below b2).below b3)
    b := (((hb.below b1).below b2).below b3)
    ab := fun k h1 h2 => by have := (ha.lt k h1).2; have := hs2 k h2; omega
    box := (b3.block _ (Nat.lt_of_lt_of_le (blk_lt hbl) b2.size)).trans ((b2.block _ (blk_lt hbl)).trans hbl)
    b1 := n1
    b2 := n2
    kp := R_ok (Kd.R_below hk b3) (fun k hq => by
      have he : w2.heap.size + 1 = k := by simpa [Value.ownBlock] using hq
      refine ⟨fun h1 => ?_, fun h1 => ?_, by omega⟩
      · have := (ha.lt k h1).2; have := hbel.size; omega
      · have := (hb.lt k h1).2; omega)
    sf := Kd.R_nil _ _ _ _ _ }
theorem Two.keepC {Ak : Option Addr} {ck : Nat} (h : Two w0 w g1 g2 kb A B (.slice Ak n ck) vs n sr S1 S2) (hk : Kept w W S1) : Kd.C Kd.bool W Ak (List.replicate n true).length (List.replicate n true) :=
  (Kd.R_reads' (Kd.R_step h.kp (fun k hq hlt => hk.block k hlt hq.1))).2.2
/-- A row that was made later stays, whatever a disk's call writes. -/
theorem row_kept {α : Type} {d : Kd α} {e base : Nat} {v : Value} {xs : List α} {S : Nat → Prop} (h : d.R e w base (fun _ => True) v xs) (hk : Kept w W S) (hne : ∀ k, S k → k < base) : d.R e W base (fun _ => True) v xs :=
  Kd.R_mono (Kd.R_step (Kd.R_bound h) (fun k hq hlt => hk.block k hlt (fun hs => by have := hne k hs; have := hq.2.1; omega))) (fun _ hq => hq.1)
end
end DiskAll
end Go.Proofs.Ytihmfccpgahmaaa.Dk
