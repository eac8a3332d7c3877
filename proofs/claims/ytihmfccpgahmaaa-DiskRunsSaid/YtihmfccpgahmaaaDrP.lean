/- The law DiskRuns: the rows that the law keeps, and its put, walked. No conditions beyond those that a law or a contract names. -/
import Derived.Test.YtihmfccpgahmaaaDkOp
import Derived.Deep.QuietTactic
import Derived.BigQuiet
namespace Go.Proofs.Ytihmfccpgahmaaa.Dk
open Go Go.RowKit Go.Proofs.YtihmfccpgahmaaaW.PrintWords Go.Proofs.YtihmfccpgahmaaaW.PrintMore Go.Proofs.YtihmfccpgahmaaaW.PrintLast Go.Proofs.Ytihmfccpgahmaaa.Str
set_option linter.unusedVariables false
set_option linter.unusedSimpArgs false
/-- A row of elements whose cells are plain values, in a block of one's own. -/
def FR {α : Type} (f : α → List Value) (sz : Nat) (e : TypeId) (base : Nat) (ok : Nat → Prop) (W : World) (v : Value) (xs : List α) : Prop :=
  ∃ (A : Option Addr) (c : Nat), v = .slice A xs.length c ∧ xs.length ≤ c ∧ xs.length ≤ 9223372036854775807 ∧ (0 < xs.length → ∃ g cells, A = some ⟨g, 0, none⟩ ∧ ok g ∧ base ≤ g ∧ W.heap[g]? = some (.cells cells e (0, 0)) ∧ ∀ j (hj : j < xs.length) i u, (f xs[j])[i]? = some u → cells[j * sz + i]? = some u)
section
variable {α : Type} {f : α → List Value} {sz : Nat} {e : TypeId} {base : Nat} {ok ok' : Nat → Prop} {W W2 : World} {v : Value} {xs : List α}
theorem FR.nil (W : World) : FR f sz e base ok W (.slice none 0 0) [] := ⟨none, 0, rfl, Nat.le_refl _, Nat.zero_le _, fun h => absurd h (Nat.lt_irrefl _)⟩
theorem FR.lit (W : World) : FR f sz e base ok W (.slice (some ⟨W.heap.size, 0, none⟩) 0 0) [] := ⟨_, 0, rfl, Nat.le_refl _, Nat.zero_le _, fun h => absurd h (Nat.lt_irrefl _)⟩
theorem FR.move (h : FR f sz e base ok W v xs) (hk : ∀ g, ok g → base ≤ g → g < W.heap.size → W2.heap[g]? = W.heap[g]? ∧ ok' g) : FR f sz e base ok' W2 v xs := by
  obtain ⟨A, c, rfl, h1, h2, h3⟩ := h
  refine ⟨A, c, rfl, h1, h2, fun h0 => ?_⟩
  obtain ⟨g, cells, rfl, ho, hb, hc, hx⟩ := h3 h0
  obtain ⟨k1, k2⟩ := hk g ho hb (blk_lt hc)
  exact ⟨g, cells, rfl, k2, hb, k1.trans hc, hx⟩
theorem FR.below (h : FR f sz e base ok W v xs) (hb : Below W.heap.size W W2) : FR f sz e base ok W2 v xs := h.move fun g ho _ hlt => ⟨hb.block g hlt, ho⟩
theorem FR.form (h : FR f sz e base ok W v xs) : ∃ A c, v = .slice A xs.length c ∧ xs.length ≤ c := by
  obtain ⟨A, c, rfl, h1, _⟩ := h
  exact ⟨A, c, rfl, h1⟩
theorem FR.cell (h : FR f sz e base ok W v xs) (j : Nat) (hj : j < xs.length) : ∃ g c, v = .slice (some ⟨g, 0, none⟩) xs.length c ∧ ok g ∧ ∀ i u, (f xs[j])[i]? = some u → W.cell? ⟨g, j * sz + i, none⟩ = some u := by
  obtain ⟨A, c, rfl, h1, h2, h3⟩ := h
  obtain ⟨g, cells, rfl, ho, hb, hc, hx⟩ := h3 (by omega)
  exact ⟨g, c, rfl, ho, fun i u hu => (blk_cell hc _).trans (hx j hj i u hu)⟩
theorem FR.of_R (d : Kd α) (hd : d.sz = sz) (hK : ∀ (w : World) x cs, d.K w x cs → cs = f x) (hl : ∀ x, (f x).length = sz) (h : d.R e W base ok v xs) : FR f sz e base ok W v xs := by
  obtain ⟨A, c, rfl, h1, hC⟩ := Kd.R_reads h
  refine ⟨A, c, rfl, h1, hC.2.1, fun h0 => ?_⟩
  obtain ⟨g, cap, he, hb, hlt, cells, hc⟩ := Kd.R_form h h0
  injection he with he _ _
  subst he
  refine ⟨g, cells, rfl, h.1 g (by simp [Value.ownBlock]), hb, hc, fun j hj i u hu => ?_⟩
  obtain ⟨ad, he, hcell⟩ := hC.2.2 h0
  injection he with he
  subst he
  obtain ⟨cs, hcl, hp, hcc⟩ := hcell j _ (List.getElem?_eq_getElem hj)
  have h2 := hcc i u (by rw [hK _ _ _ hp]; exact hu)
  rw [add_plain, hd, blk_cell hc] at h2
  exact h2
/-- Read by the kit. -/
theorem FR.reads {A : Option Addr} {n c : Nat} (d : Kd α) (hd : d.sz = sz) (hK : ∀ (w : World) x, d.K w x (f x)) (hl : ∀ x, (f x).length = sz) (h : FR f sz e base ok W (.slice A n c) xs) : ReadsRow (d.K W) d.sz W A n xs := by
  obtain ⟨A', c', he, h1, h2, h3⟩ := h
  injection he with e1 e2 e3
  subst e1 e2 e3
  refine ⟨rfl, h2, fun h0 => ?_⟩
  obtain ⟨g, cells, rfl, ho, hb, hc, hx⟩ := h3 h0
  refine ⟨_, rfl, fun j p hj => ⟨f p, by rw [hl, hd], hK _ _, fun i u hu => ?_⟩⟩
  obtain ⟨hj1, hj2⟩ := List.getElem?_eq_some_iff.1 hj
  rw [add_plain, hd, blk_cell hc]
  exact hx j hj1 i u (by rw [hj2]; exact hu)
end
abbrev SV := ByteArray × Bool
def fS (x : SV) : List Value := [.string x.1, .bool x.2]
def kSl : Kd SV := Kd.pair Kd.string Kd.bool
structure Hd where
  a : Option Addr
  n : Nat
  c : Nat
def Hd.v (h : Hd) : Value := .slice h.a h.n h.c
def kHd : Kd Hd := Kd.scalar Hd.v (fun _ => rfl)
structure Fl where
  k : Int
  at_ : Int
  b : Hd
  kp : Hd
  tear : Int
def fF (x : Fl) : List Value := [.int .i64 x.k, .int .i64 x.at_, x.b.v, x.kp.v, .int .i64 x.tear]
def kFl : Kd Fl := Kd.iso (Kd.pair (Kd.int .i64) (Kd.pair (Kd.int .i64) (Kd.pair kHd (Kd.pair kHd (Kd.int .i64))))) (fun o => (o.k, o.at_, o.b, o.kp, o.tear))
theorem kSl_K (w : World) (x : SV) (cs : List Value) (h : kSl.K w x cs) : cs = fS x := by
  obtain ⟨c0, c1, rfl, h0, h1⟩ := h
  replace h0 : c0 = [.string x.1] := h0
  replace h1 : c1 = [.bool x.2] := h1
  subst h0 h1
  rfl
theorem kSl_M (w : World) (x : SV) : kSl.K w x (fS x) := ⟨[.string x.1], [.bool x.2], rfl, rfl, rfl⟩
theorem kSl_MM (w : World) (base : Nat) (ok : Nat → Prop) (x : SV) : kSl.M w base ok x (fS x) := ⟨[.string x.1], [.bool x.2], rfl, rfl, rfl⟩
theorem kFl_K (w : World) (x : Fl) (cs : List Value) (h : kFl.K w x cs) : cs = fF x := by
  obtain ⟨c0, _, rfl, h0, c1, _, rfl, h1, c2, _, rfl, h2, c3, c4, rfl, h3, h4⟩ := h
  replace h0 : c0 = [.int .i64 x.k] := h0
  replace h1 : c1 = [.int .i64 x.at_] := h1
  replace h2 : c2 = [x.b.v] := h2
  replace h3 : c3 = [x.kp.v] := h3
  replace h4 : c4 = [.int .i64 x.tear] := h4
  subst h0 h1 h2 h3 h4
  rfl
theorem kFl_M (w : World) (x : Fl) : kFl.K w x (fF x) := ⟨[.int .i64 x.k], [.int .i64 x.at_, x.b.v, x.kp.v, .int .i64 x.tear], rfl, rfl, [.int .i64 x.at_], [x.b.v, x.kp.v, .int .i64 x.tear], rfl, rfl, [x.b.v], [x.kp.v, .int .i64 x.tear], rfl, rfl, [x.kp.v], [.int .i64 x.tear], rfl, rfl, rfl⟩
theorem kFl_MM (w : World) (base : Nat) (ok : Nat → Prop) (x : Fl) : kFl.M w base ok x (fF x) := ⟨[.int .i64 x.k], [.int .i64 x.at_, x.b.v, x.kp.v, .int .i64 x.tear], rfl, rfl, [.int .i64 x.at_], [x.b.v, x.kp.v, .int .i64 x.tear], rfl, rfl, [x.b.v], [x.kp.v, .int .i64 x.tear], rfl, rfl, [x.kp.v], [.int .i64 x.tear], rfl, rfl, rfl⟩
abbrev SR (base : Nat) (ok : Nat → Prop) (W : World) (v : Value) (l : List SV) : Prop := FR fS 2 45 base ok W v l
theorem infoSc : (Try.prog.info? 45).map (fun i => (i.zero, i.size, i.bytes)) = some (some (.agg #[.string ByteArray.empty, .bool false]), 2, 24) := by kernel_rfl
theorem infoOp : (Try.prog.info? 36).map (fun i => (i.zero, i.size, i.bytes)) = some (some (.agg #[.int .i64 0, .int .i64 0, .slice none 0 0, .slice none 0 0, .int .i64 0]), 5, 72) := by kernel_rfl
theorem empty_row {α : Type} (d : Kd α) (W : World) (base : Nat) (e : TypeId) (ok : Nat → Prop) (hb : base ≤ W.heap.size) (hok : ok W.heap.size) : d.R e (W.alloc (.cells #[] e)) base ok (.slice (some ⟨W.heap.size, 0, none⟩) 0 0) [] := by
  refine ⟨fun k hk => ?_, [], ?_, Reps.none _ _⟩
  · have h2 : W.heap.size = k := by simpa [Value.ownBlock] using hk
    rw [← h2]; exact hok
  · have h := World.ownsRow_lit (base := base) (e := e) (size := d.sz) W #[] 0 hb (by simp) (by simp)
    simpa using h
theorem FR.set {α : Type} {f : α → List Value} {sz : Nat} {e : TypeId} {base : Nat} {ok : Nat → Prop} {W W2 : World} {g n c : Nat} {xs : List α} (h : FR f sz e base ok W (.slice (some ⟨g, 0, none⟩) n c) xs) (a : Nat) (x : α) (cells cells' : Array Value) (hc : W.heap[g]? = some (.cells cells e (0, 0))) (hc' : W2.heap[g]? = some (.cells cells' e (0, 0))) (hl : ∀ x, (f x).length = sz)
    (h1 : ∀ k, (k < a * sz ∨ a * sz + sz ≤ k) → cells'[k]? = cells[k]?) (h2 : ∀ i u, (f x)[i]? = some u → cells'[a * sz + i]? = some u) : FR f sz e base ok W2 (.slice (some ⟨g, 0, none⟩) n c) (xs.set a x) := by
  obtain ⟨A', c', he, q1, q2, q3⟩ := h
  injection he with e1 e2 e3
  subst e1 e2 e3
  refine ⟨_, _, by rw [List.length_set], by rw [List.length_set]; exact q1, by rw [List.length_set]; exact q2, fun h0 => ?_⟩
  rw [List.length_set] at h0
  obtain ⟨g', cs, he, ho, hb, hcc, hx⟩ := q3 h0
  injection he with he
  injection he with he _ _
  subst he
  rw [hc] at hcc
  injection hcc with hcc
  injection hcc with hcc _ _
  subst hcc
  refine ⟨g, cells', rfl, ho, hb, hc', fun j hj i u hu => ?_⟩
  have hi : i < sz := by
    obtain ⟨h3, _⟩ := List.getElem?_eq_some_iff.1 hu
    rw [hl] at h3; exact h3
  rw [List.length_set] at hj
  by_cases hja : j = a
  · subst hja
    rw [List.getElem_set_self] at hu
    exact h2 i u hu
  · rw [List.getElem_set_ne (fun q => hja q.symm)] at hu
    rw [h1 _ ?_]
    · exact hx j hj i u hu
    · rcases Nat.lt_or_gt_of_ne hja with h4 | h4
      · left
        have h5 : (j + 1) * sz ≤ a * sz := Nat.mul_le_mul_right _ h4
        rw [Nat.add_mul, Nat.one_mul] at h5
        omega
      · right
        have h5 : (a + 1) * sz ≤ j * sz := Nat.mul_le_mul_right _ h4
        rw [Nat.add_mul, Nat.one_mul] at h5
        omega
theorem one_reads {W : World} {g : Nat} {x : Fl} (h : W.heap[g]? = some (.cells (fF x).toArray 36 (0, 0))) : ReadsRow (kFl.K W) kFl.sz W (some ⟨g, 0, none⟩) 1 [x] := by
  refine ⟨rfl, by decide, fun _ => ⟨_, rfl, fun j p hj => ?_⟩⟩
  match j, hj with
  | 0, hj =>
    have hp : x = p := Option.some.inj hj
    subst hp
    refine ⟨fF x, rfl, kFl_M _ _, fun i u hu => ?_⟩
    rw [add_plain, blk_cell h]
    simpa using hu
set_option maxRecDepth 100000 in
set_option maxHeartbeats 4000000 in
theorem put_ok {w : World} {base : Nat} {ok : Nat → Prop} {v : Value} {l : List SV} (h : SR base ok w v l) (a : Nat) (ha : a < l.length) (hl : l.length ≤ 65536) (x : SV) : Calls Try.prog 27 #[v, .int .i64 (a : Int), .agg #[.string x.1, .bool x.2]] w fun e w' =>
    ∃ v', e = .returned v' ∧ SR w.heap.size (fun _ => True) w' v' (l.set a x) ∧ Below w.heap.size w w' := by
  obtain ⟨A, c, rfl, hc⟩ := h.form
  have HH := Aside0.mk h
  have HX := Aside0.mk (And.intro ha hl)
  obtain ⟨n, hn⟩ : ∃ n, n = l.length := ⟨_, rfl⟩
  have HN := Aside0.mk hn
  rw [← hn] at ha hl hc ⊢
  clear h hn
  go_enter Try.func27, Try.ntmps27
  have B0 := Aside0.mk (below_alloc (Below.refl w.heap.size w) (.cells #[.string x.1, .bool x.2] 45))
  have BX := Aside0.mk (blk_new w (.cells #[.string x.1, .bool x.2] 45))
  have hsz : (w.alloc (.cells #[.string x.1, .bool x.2] 45)).heap.size = w.heap.size + 1 := World.size_alloc _ _
  have HS := Aside0.mk (show (w.alloc (.cells #[.string x.1, .bool x.2] 45)).heap.size = w.heap.size + 1 from hsz)
  have HH1 := Aside0.mk (HH.out.below B0.out)
  clear hsz
  go_upto_region 1 with fail
  generalize w.alloc _ = w1 at B0 BX HS HH1 ⊢
  have hb1 : w.heap.size ≤ w1.heap.size := by have := HS.out; omega
  have hE : ∀ ok : Nat → Prop, ok w1.heap.size → kSl.R 45 (w1.alloc (.cells #[] 45)) w.heap.size ok (.slice (some ⟨w1.heap.size, 0, none⟩) 0 0) [] := fun ok hok => empty_row kSl w1 w.heap.size _ ok hb1 hok
  have hRd : ReadsRow (kSl.K (w1.alloc (.cells #[] 45))) kSl.sz (w1.alloc (.cells #[] 45)) A n l := by
    have h := HH1.out.below (below_alloc (Below.refl _ _) (.cells #[] 45))
    have h2 := h.reads kSl rfl kSl_M (fun _ => rfl)
    rw [HN.out]
    exact h2
  have hKM : ∀ y cs, kSl.K (w1.alloc (.cells #[] 45)) y cs → kSl.M (w1.alloc (.cells #[] 45)) w.heap.size (fun _ => False) y cs := fun y cs hy => by rw [kSl_K _ _ _ hy]; exact kSl_MM _ _ _ _
  have hs1 : (w1.alloc (.cells #[] 45)).heap.size = w1.heap.size + 1 := World.size_alloc _ _
  have hB1 : Below w.heap.size w (w1.alloc (.cells #[] 45)) := B0.out.alloc hb1 _
  have HA := Aside0.mk (And.intro hE (And.intro hRd (And.intro hKM (And.intro hs1 hB1))))
  clear hE hRd hKM hs1 hB1 hb1
  go_upto_region 2 with (at_builtin; refine Kd.R_append_rows kSl (Rr := kSl.K (w1.alloc (.cells #[] 45))) (w0 := w) w.heap.size rfl (.tmp 8) (.tmp 9) 43 45 (.agg #[.string ByteArray.empty, .bool false]) 24 rfl Try.underlying43 infoSc rfl (by decide) (by decide) _ [] l A n c (fun k => w1.heap.size ≤ k) (fun _ => False) rfl rfl (HA.out.1 _ (Nat.le_refl _)) HA.out.2.1 HA.out.2.2.1 (fun _ h => h.elim) (fun k hk => by have := HA.out.2.2.2.1; omega) HA.out.2.2.2.2 HA.out.2.2.2.2.size (by have := HX.out.2; rw [← HN.out] at this; show (0 + n) * 24 ≤ _; omega) ?_; intro v1 w2 hR hB hg hat; have HR := Aside0.mk (FR.of_R kSl (f := fS) rfl kSl_K (fun _ => rfl) hR); have HB2 := Aside0.mk (And.intro hB hg); clear hR hB hg hat)
  rw [List.nil_append] at HR
  have hb2 := (HB2.out.2.block w.heap.size (by rw [World.size_alloc]; have := HS.out; omega) (fun h => by have h2 : w.heap.size = w1.heap.size := Option.some.inj h; have h3 := HS.out; omega)).trans ((heap_alloc_old w1 _ (by have := HS.out; omega)).trans BX.out)
  have BX2 := Aside0.mk hb2
  have y0 : w2.cell? ⟨w.heap.size, 0, none⟩ = some (.string x.1) := (blk_cell hb2 0).trans rfl
  have y1 : w2.cell? ⟨w.heap.size, 1, none⟩ = some (.bool x.2) := (blk_cell hb2 1).trans rfl
  clear hb2
  obtain ⟨A1, c1, hv, q1, q2, q3⟩ := HR.out
  obtain ⟨g, cells, rfl, hgo, hgb, hgc, hgx⟩ := q3 (by have := HN.out; omega)
  rw [← HN.out] at hv q1
  subst hv
  have hal := HX.out.1
  have z0 : w2.cell? ⟨g, a * 2, none⟩ = some (.string l[a].1) := (blk_cell hgc _).trans (hgx a HX.out.1 0 _ rfl)
  have z1 : w2.cell? ⟨g, a * 2 + 1, none⟩ = some (.bool l[a].2) := (blk_cell hgc _).trans (hgx a HX.out.1 1 _ rfl)
  have f0 := blk_frozen hgc (a * 2)
  have f1 := blk_frozen hgc (a * 2 + 1)
  have hai : (a : Int) < (n : Int) := by omega
  have HC := Aside0.mk (And.intro hgc (And.intro hgo (And.intro hgb hgx)))
  clear hgc hgo hgb hgx q2 q3
  go_wp2
  go_ret
  obtain ⟨hgc, hgo, hgb, hgx⟩ := HC.out
  have s1 : a * 2 + 1 < cells.size := by
    have h := hgx a hal 1 _ rfl
    exact (Array.getElem?_eq_some_iff.1 h).1
  refine ⟨_, rfl, (FR.set HR.out a x cells _ hgc (blk_set (blk_set hgc (a * 2) (.string x.1)) (a * 2 + 1) (.bool x.2)) (fun _ => rfl) (fun k hk => ?_) (fun i u hu => ?_)).move (fun k _ _ _ => ⟨rfl, trivial⟩), ?_⟩
  · have hk2 : k < a * 2 ∨ a * 2 + 2 ≤ k := hk
    rw [Array.getElem?_setIfInBounds_ne (by omega), Array.getElem?_setIfInBounds_ne (by omega)]
  · match i, hu with
    | 0, hu =>
      have hu2 : Value.string x.1 = u := Option.some.inj hu
      show (_ : Array Value)[a * 2 + 0]? = _
      rw [Array.getElem?_setIfInBounds_ne (by omega)]
      exact (Array.getElem?_setIfInBounds_self_of_lt (by omega)).trans (congrArg some hu2)
    | 1, hu =>
      have hu2 : Value.bool x.2 = u := Option.some.inj hu
      show (_ : Array Value)[a * 2 + 1]? = _
      rw [Array.getElem?_setIfInBounds_self_of_lt (by rw [Array.size_setIfInBounds]; exact s1), hu2]
  · exact (HB2.out.1.trans (by exact ⟨rfl, rfl, rfl, by show _ ≤ (((w2.setCell _ _)).setCell _ _).heap.size; simp [World.setCell], fun k hk => (Below.heap_setCell _ _ _ k (show k ≠ g by omega)).trans (Below.heap_setCell _ _ _ k (show k ≠ g by omega))⟩))
end Go.Proofs.Ytihmfccpgahmaaa.Dk
