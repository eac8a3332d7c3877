/- A page's bytes as a plain function, and that Encode answers so. Conditions: numbers within their kinds' bounds, slices no longer than memory. -/
import Derived.Test.YtopfaeefhicljaaPgPure
import Derived.Test.YtopfaeefhicljaaTxt
namespace Go.Proofs.Ytopfaeefhicljaa.Q
open Go Go.RowKit Go.Proofs.YtopfaeefhicljaaW.PrintWords Go.Proofs.Ytopfaeefhicljaa.Leb Go.Proofs.Ytopfaeefhicljaa.Str
set_option linter.unusedVariables false
set_option linter.unusedSimpArgs false

def leafL : List ByteArray → List ByteArray → List Int → List Int
  | k :: ks, v :: vs, t => textL k (textL v (leafL ks vs t))
  | _, _, t => t
def pairL : List ByteArray → List Int → List Int → List Int
  | k :: ks, n :: ns, t => textL k (leb n.toNat ++ pairL ks ns t)
  | _, _, t => t
def innerL (keys : List ByteArray) : List Int → List Int → List Int
  | n :: ns, t => leb n.toNat ++ pairL keys ns t
  | [], t => t
def bodyP (p : PgV) (t : List Int) : List Int :=
  if p.kind = 1 then leb p.keys.length ++ leafL p.keys p.vals t
  else if p.kind = 2 then leb p.kids.length ++ innerL p.keys p.kids t
  else if p.kind = 3 then leb p.root.toNat ++ (leb p.next.toNat ++ (leb p.size.toNat ++ (leb p.idle.toNat ++ t)))
  else if p.kind = 4 then leb p.next.toNat ++ t
  else t
def encP (p : PgV) (lsn : Nat) (t : List Int) : List Int := leb p.kind.toNat ++ (leb lsn ++ bodyP p t)

theorem leafL_app : ∀ (ks vs : List ByteArray) (t : List Int), leafL ks vs t = leafL ks vs [] ++ t
  | k :: ks, v :: vs, t => by simp only [leafL]; rw [leafL_app ks vs t]; simp [textL]
  | [], _, t => by simp [leafL]
  | _ :: _, [], t => by simp [leafL]
theorem pairL_app : ∀ (ks : List ByteArray) (ns : List Int) (t : List Int), pairL ks ns t = pairL ks ns [] ++ t
  | k :: ks, n :: ns, t => by simp only [pairL]; rw [pairL_app ks ns t]; simp [textL]
  | [], _, t => by simp [pairL]
  | _ :: _, [], t => by simp [pairL]
theorem innerL_app (ks : List ByteArray) (ns t : List Int) : innerL ks ns t = innerL ks ns [] ++ t := by
  cases ns with
  | nil => simp [innerL]
  | cons n ns => simp only [innerL]; rw [pairL_app ks ns t]; simp
theorem bodyP_app (p : PgV) (t : List Int) : bodyP p t = bodyP p [] ++ t := by
  unfold bodyP
  split
  · rw [leafL_app]; simp
  · split
    · rw [innerL_app]; simp
    · split
      · simp
      · split
        · simp
        · simp
theorem encP_app (p : PgV) (lsn : Nat) (t : List Int) : encP p lsn t = encP p lsn [] ++ t := by
  unfold encP
  rw [bodyP_app]
  simp

theorem drop_cons {α : Type} (l : List α) (i : Nat) (d : α) (h : i < l.length) : l.drop i = l.getD i d :: l.drop (i + 1) := by
  rw [List.drop_eq_getElem_cons h]
  simp [List.getD_eq_getElem?_getD, List.getElem?_eq_getElem h]
theorem getD_mem {α : Type} (l : List α) (i : Nat) (d : α) (h : i < l.length) : l.getD i d ∈ l := by
  simp [List.getD_eq_getElem?_getD, List.getElem?_eq_getElem h]
theorem succ64 (i : Nat) (h : i < 4611686018427387904) : wrap64 ((i : Int) + 1) = ((i + 1 : Nat) : Int) := by rw [wrap64_id _ (by omega) (by omega)]; omega

/-- What is known of a right page. -/
structure RtP (p : PgV) : Prop where
  keys : ∀ k ∈ p.keys, 1 ≤ k.size ∧ k.size ≤ 24
  kind : 1 ≤ p.kind ∧ p.kind ≤ 4
  k1 : p.kind = 1 → p.keys.length ≤ 6 ∧ p.vals.length = p.keys.length ∧ p.kids = [] ∧ (p.root = 0 ∧ p.next = 0 ∧ p.size = 0 ∧ p.idle = 0) ∧ ∀ v ∈ p.vals, v.size ≤ 48
  k2 : p.kind = 2 → 2 ≤ p.kids.length ∧ p.kids.length ≤ 8 ∧ p.keys.length + 1 = p.kids.length ∧ p.vals = [] ∧ (p.root = 0 ∧ p.next = 0 ∧ p.size = 0 ∧ p.idle = 0) ∧ ∀ n ∈ p.kids, 0 ≤ n ∧ n < 65536
  k3 : p.kind = 3 → p.keys = [] ∧ p.vals = [] ∧ p.kids = [] ∧ 0 ≤ p.root ∧ p.root < 65536 ∧ 0 ≤ p.next ∧ p.next < 65536 ∧ 0 ≤ p.size ∧ p.size ≤ 65536 ∧ 0 ≤ p.idle ∧ p.idle ≤ p.size
  k4 : p.kind = 4 → p.keys = [] ∧ p.vals = [] ∧ p.kids = [] ∧ p.root = 0 ∧ 0 ≤ p.next ∧ p.next < 65536 ∧ p.size = 0 ∧ p.idle = 0

theorem rise_sizes {l : List ByteArray} (h : riseB l = true) : ∀ k ∈ l, 1 ≤ k.size ∧ k.size ≤ 24 := by
  intro k hk
  obtain ⟨i, hi, rfl⟩ := List.mem_iff_getElem.mp hk
  unfold riseB at h
  rw [List.all_eq_true] at h
  have := h i (by rw [List.mem_range'_1]; omega)
  unfold riseAt at this
  have e : l.getD i ByteArray.empty = l[i] := by simp [List.getD_eq_getElem?_getD, List.getElem?_eq_getElem hi]
  rw [e] at this
  simp only [Bool.and_eq_true, decide_eq_true_eq] at this
  exact ⟨this.1, this.2.1⟩

theorem rtP_of {p : PgV} (h : rightP p = true) : RtP p := by
  unfold rightP at h
  rw [Bool.and_eq_true] at h
  obtain ⟨h1, h2⟩ := h
  have hk := rise_sizes h1
  unfold rightK at h2
  refine ⟨hk, ?_, fun c => ?_, fun c => ?_, fun c => ?_, fun c => ?_⟩
  · split at h2
    · omega
    · split at h2
      · omega
      · split at h2
        · omega
        · split at h2
          · omega
          · cases h2
  · rw [if_pos c] at h2
    simp only [noneB, Bool.and_eq_true, decide_eq_true_eq, List.all_eq_true] at h2
    obtain ⟨⟨a, b, d⟩, e, f⟩ := h2
    exact ⟨a, b, List.eq_nil_of_length_eq_zero d, e, f⟩
  · rw [if_neg (by omega), if_pos c] at h2
    simp only [noneB, Bool.and_eq_true, decide_eq_true_eq, List.all_eq_true] at h2
    obtain ⟨⟨a, b, d, g⟩, e, f⟩ := h2
    exact ⟨a, b, d, List.eq_nil_of_length_eq_zero g, e, f⟩
  · rw [if_neg (by omega), if_neg (by omega), if_pos c] at h2
    simp only [decide_eq_true_eq] at h2
    obtain ⟨a, b, d, e⟩ := h2
    exact ⟨List.eq_nil_of_length_eq_zero a, List.eq_nil_of_length_eq_zero b, List.eq_nil_of_length_eq_zero d, e⟩
  · rw [if_neg (by omega), if_neg (by omega), if_neg (by omega), if_pos c] at h2
    simp only [decide_eq_true_eq] at h2
    obtain ⟨a, b, d, e⟩ := h2
    exact ⟨List.eq_nil_of_length_eq_zero a, List.eq_nil_of_length_eq_zero b, List.eq_nil_of_length_eq_zero d, e⟩

theorem enc_l0 (keys vals : List ByteArray) (kind : Int) (kids : List Int) (root next size idle : Int) (hv : vals.length = keys.length) (hl : keys.length ≤ 1000) (hk : ∀ s ∈ keys, s.size ≤ 1000) (hvs : ∀ s ∈ vals, s.size ≤ 1000) :
    ∀ (d i k : Nat) (acc : List Int), i + d = keys.length → d + 12 ≤ k → acc.length + 3000 * d ≤ 100000000 →
      page_Encode.l0 k acc keys (keys.length : Int) (i : Int) kind keys vals kids root next size idle = some (acc ++ leafL (keys.drop i) (vals.drop i) [], 0) := by
  intro d
  induction d with
  | zero =>
    intro i k acc h hk _
    obtain ⟨k, rfl⟩ : ∃ m, k = m + 1 := ⟨k - 1, by omega⟩
    simp only [page_Encode.l0]
    rw [if_neg (by omega), List.drop_of_length_le (by omega)]
    simp [leafL]
  | succ d ih =>
    intro i k acc h hk' ha
    obtain ⟨k, rfl⟩ : ∃ m, k = m + 1 := ⟨k - 1, by omega⟩
    simp only [page_Encode.l0]
    rw [if_pos (by omega), if_pos (by omega), if_pos (by omega)]
    have e1 : rdOf ByteArray.empty keys (i : Int) = keys.getD i ByteArray.empty := by simp [rdOf]
    have e2 : rdOf ByteArray.empty vals (i : Int) = vals.getD i ByteArray.empty := by simp [rdOf]
    have s1 := hk _ (getD_mem keys i ByteArray.empty (by omega))
    have s2 := hvs _ (getD_mem vals i ByteArray.empty (by omega))
    have l1 := leb_ten (n := (keys.getD i ByteArray.empty).size) (by omega)
    have l2 := leb_ten (n := (vals.getD i ByteArray.empty).size) (by omega)
    have b1 := length_bytes (keys.getD i ByteArray.empty)
    have b2 := length_bytes (vals.getD i ByteArray.empty)
    rw [e1, text_l k acc _ (by omega) (by omega) (by omega), Option.bind_some, if_pos (by omega), e2, text_l k _ _ (by omega) (by omega) (by simp only [List.length_append]; omega), Option.bind_some, succ64 i (by omega)]
    rw [ih (i + 1) k _ (by omega) (by omega) (by simp only [List.length_append]; omega)]
    rw [drop_cons keys i ByteArray.empty (by omega), drop_cons vals i ByteArray.empty (by omega)]
    simp [leafL, textL]

theorem nat_of (n : Int) (h : 0 ≤ n) : n = ((n.toNat : Nat) : Int) := by omega

theorem enc_l1 (keys vals : List ByteArray) (kind : Int) (kids : List Int) (root next size idle : Int) (hv : keys.length + 1 = kids.length) (hl : kids.length ≤ 1000) (hk : ∀ s ∈ keys, s.size ≤ 1000) (hn : ∀ n ∈ kids, 0 ≤ n ∧ n < 65536) :
    ∀ (d i k : Nat) (acc : List Int), 1 ≤ i → i + d = kids.length → d + 12 ≤ k → acc.length + 3000 * d ≤ 100000000 →
      page_Encode.l1 k acc kids (kids.length : Int) (i : Int) kind keys vals kids root next size idle = some (acc ++ pairL (keys.drop (i - 1)) (kids.drop i) [], 0) := by
  intro d
  induction d with
  | zero =>
    intro i k acc h1 h hk _
    obtain ⟨k, rfl⟩ : ∃ m, k = m + 1 := ⟨k - 1, by omega⟩
    simp only [page_Encode.l1]
    rw [if_neg (by omega), List.drop_of_length_le (l := keys) (by omega)]
    simp [pairL]
  | succ d ih =>
    intro i k acc h1 h hk' ha
    obtain ⟨k, rfl⟩ : ∃ m, k = m + 1 := ⟨k - 1, by omega⟩
    simp only [page_Encode.l1]
    have n2 : wrap64 ((i : Int) - 1) = ((i - 1 : Nat) : Int) := by rw [wrap64_id _ (by omega) (by omega)]; omega
    rw [if_pos (by omega), if_pos (by omega), if_pos (by omega), if_pos (by omega), n2, if_pos (by omega), if_pos (by omega)]
    have e1 : rdOf ByteArray.empty keys ((i - 1 : Nat) : Int) = keys.getD (i - 1) ByteArray.empty := by simp [rdOf]
    have e2 : rd kids (i : Int) = kids.getD i 0 := by simp [rd]
    have s1 := hk _ (getD_mem keys (i - 1) ByteArray.empty (by omega))
    have s2 := hn _ (getD_mem kids i 0 (by omega))
    have l1 := leb_ten (n := (keys.getD (i - 1) ByteArray.empty).size) (by omega)
    have b1 := length_bytes (keys.getD (i - 1) ByteArray.empty)
    have l2 := leb_ten (n := (kids.getD i 0).toNat) (by omega)
    have w2 : IntKind.u64.wrap (kids.getD i 0) = (((kids.getD i 0).toNat : Nat) : Int) := by
      have := wrap_nat (kids.getD i 0).toNat (by omega)
      rw [← nat_of _ s2.1] at this
      rw [← nat_of _ s2.1]
      exact this
    rw [e1, text_l k acc _ (by omega) (by omega) (by omega), Option.bind_some, e2, w2, put_l _ k _ (by omega) (by omega) (by simp only [List.length_append]; omega), Option.bind_some, succ64 i (by omega)]
    rw [ih (i + 1) k _ (by omega) (by omega) (by omega) (by simp only [List.length_append]; omega)]
    rw [drop_cons keys (i - 1) ByteArray.empty (by omega), drop_cons kids i 0 (by omega), show i - 1 + 1 = i + 1 - 1 by omega]
    simp [pairL, textL]

theorem enc_no_p (k : Nat) (p : PgV) (lsn : Int) (hk : p.keys.length < k) (h1 : p.keys.length < 1152921504606846976) (h2 : p.vals.length < 1152921504606846976) (h3 : p.kids.length < 1152921504606846976) (h : rightP p = false) :
    page_Encode.f k p.kind p.keys p.vals p.kids p.root p.next p.size p.idle lsn = some ([], 1) := by
  unfold page_Encode.f
  rw [pright_f k p hk h1 h2 h3, h]
  rfl

theorem enc_yes_p (k : Nat) (p : PgV) (lsn : Nat) (hk : 100 ≤ k) (hl : lsn < 18446744073709551616) (h : rightP p = true) :
    page_Encode.f k p.kind p.keys p.vals p.kids p.root p.next p.size p.idle (lsn : Int) = some (encP p lsn [], 0) := by
  have r := rtP_of h
  have z0 : p.keys.length < 100 ∧ p.vals.length < 100 ∧ p.kids.length < 100 := by
    have := r.kind
    by_cases c1 : p.kind = 1
    · obtain ⟨a, b, c, _⟩ := r.k1 c1
      rw [c, b]
      simp
      omega
    · by_cases c2 : p.kind = 2
      · obtain ⟨a, b, c, d, _⟩ := r.k2 c2
        rw [d]
        simp
        omega
      · by_cases c3 : p.kind = 3
        · obtain ⟨a, b, c, _⟩ := r.k3 c3
          rw [a, b, c]
          simp
        · obtain ⟨a, b, c, _⟩ := r.k4 (by omega)
          rw [a, b, c]
          simp
  have hR := pright_f k p (by omega) (by omega) (by omega) (by omega)
  rw [h] at hR
  obtain ⟨kind, keys, vals, kids, root, next, size, idle⟩ := p
  obtain ⟨r1, r2, r3, r4, r5, r6⟩ := r
  dsimp only at *
  obtain ⟨kind, rfl⟩ := Int.eq_ofNat_of_zero_le (show 0 ≤ kind by omega)
  have l1 := leb_ten (n := kind) (by omega)
  have l2 := leb_ten hl
  unfold page_Encode.f
  rw [hR, Option.bind_some, if_pos rfl, wrap_nat kind (by omega), put_l kind k [] (by omega) (by omega) (by simp), Option.bind_some, put_l lsn k _ hl (by omega) (by simp; omega), Option.bind_some]
  unfold encP bodyP
  simp only [Int.toNat_natCast]
  by_cases c1 : (kind : Int) = 1
  · obtain ⟨a, b, c, _, e⟩ := r3 c1
    have l3 := leb_ten (n := keys.length) (by omega)
    rw [if_pos c1, if_pos c1, wrap_nat keys.length (by omega), put_l _ k _ (by omega) (by omega) (by simp; omega), Option.bind_some]
    have := enc_l0 keys vals (kind : Int) kids root next size idle b (by omega) (fun s hs => by have := r1 s hs; omega) (fun s hs => by have := e s hs; omega) keys.length 0 k (([] ++ leb kind) ++ leb lsn ++ leb keys.length) (by omega) (by omega) (by simp; omega)
    rw [show ((0 : Nat) : Int) = 0 from rfl] at this
    rw [this]
    simp
  · rw [if_neg c1, if_neg c1]
    by_cases c2 : (kind : Int) = 2
    · obtain ⟨a, b, c, _, _, e⟩ := r4 c2
      have l3 := leb_ten (n := kids.length) (by omega)
      rw [if_pos c2, if_pos c2, wrap_nat kids.length (by omega), put_l _ k _ (by omega) (by omega) (by simp; omega), Option.bind_some]
      obtain ⟨k, rfl⟩ : ∃ m, k = m + 1 := ⟨k - 1, by omega⟩
      have s2 := e _ (getD_mem kids 0 0 (by omega))
      have e2 : rd kids 0 = kids.getD 0 0 := by simp [rd]
      have w2 : IntKind.u64.wrap (kids.getD 0 0) = (((kids.getD 0 0).toNat : Nat) : Int) := by
        have := wrap_nat (kids.getD 0 0).toNat (by omega)
        rw [← nat_of _ s2.1] at this
        rw [← nat_of _ s2.1]
        exact this
      have l4 := leb_ten (n := (kids.getD 0 0).toNat) (by omega)
      simp only [page_Encode.l1]
      rw [if_pos (by omega), if_pos (by omega), if_pos (by omega), if_neg (by omega), e2, w2, put_l _ k _ (by omega) (by omega) (by simp only [List.length_append, List.length_nil]; omega), Option.bind_some, show wrap64 (0 + 1) = ((1 : Nat) : Int) from by rw [wrap64_id _ (by omega) (by omega)]; rfl]
      rw [enc_l1 keys vals (kind : Int) kids root next size idle c (by omega) (fun s hs => by have := r1 s hs; omega) e (kids.length - 1) 1 k _ (by omega) (by omega) (by omega) (by simp only [List.length_append, List.length_nil]; omega)]
      have hd := drop_cons kids 0 0 (by omega)
      rw [List.drop_zero] at hd
      have hi : innerL keys kids [] = leb (kids.getD 0 0).toNat ++ pairL keys (kids.drop 1) [] := by
        conv => lhs; rw [hd]
        rfl
      rw [hi]
      simp
    · rw [if_neg c2, if_neg c2]
      by_cases c3 : (kind : Int) = 3
      · obtain ⟨_, _, _, q1, q2, q3, q4, q5, q6, q7, q8⟩ := r5 c3
        obtain ⟨root, rfl⟩ := Int.eq_ofNat_of_zero_le q1
        obtain ⟨next, rfl⟩ := Int.eq_ofNat_of_zero_le q3
        obtain ⟨size, rfl⟩ := Int.eq_ofNat_of_zero_le q5
        obtain ⟨idle, rfl⟩ := Int.eq_ofNat_of_zero_le q7
        have l3 := leb_ten (n := root) (by omega)
        have l4 := leb_ten (n := next) (by omega)
        have l5 := leb_ten (n := size) (by omega)
        rw [if_pos c3, if_pos c3, wrap_nat root (by omega), put_l _ k _ (by omega) (by omega) (by simp; omega), Option.bind_some, wrap_nat next (by omega), put_l _ k _ (by omega) (by omega) (by simp; omega), Option.bind_some, wrap_nat size (by omega), put_l _ k _ (by omega) (by omega) (by simp; omega), Option.bind_some, wrap_nat idle (by omega), put_l _ k _ (by omega) (by omega) (by simp; omega), Option.bind_some]
        simp
      · rw [if_neg c3, if_neg c3]
        obtain ⟨_, _, _, q1, q2, q3, q4, q5⟩ := r6 (by omega)
        obtain ⟨next, rfl⟩ := Int.eq_ofNat_of_zero_le q2
        rw [if_pos (by omega), if_pos (by omega), wrap_nat next (by omega), put_l _ k _ (by omega) (by omega) (by simp; omega), Option.bind_some]
        simp

/-- The document's example. -/
theorem head_p (k : Nat) (hk : 100 ≤ k) : dockmasterlaw06_head.f k = some true := by
  unfold dockmasterlaw06_head.f
  have hr : rightP ⟨1, [(⟨#[97]⟩ : ByteArray)], [(⟨#[120]⟩ : ByteArray)], [], 0, 0, 0, 0⟩ = true := by decide
  have := enc_yes_p k ⟨1, [(⟨#[97]⟩ : ByteArray)], [(⟨#[120]⟩ : ByteArray)], [], 0, 0, 0, 0⟩ 5 hk (by omega) hr
  dsimp only at this
  have e : encP ⟨1, [(⟨#[97]⟩ : ByteArray)], [(⟨#[120]⟩ : ByteArray)], [], 0, 0, 0, 0⟩ 5 [] = [1, 5, 1, 1, 97, 1, 120] := by
    unfold encP bodyP
    rw [if_pos rfl]
    show leb 1 ++ (leb 5 ++ (leb 1 ++ (leb 1 ++ ([97] ++ (leb 1 ++ ([120] ++ [])))))) = _
    rw [leb_lt (n := 1) (by omega), leb_lt (n := 5) (by omega)]
    rfl
  rw [e] at this
  rw [show ((5 : Nat) : Int) = 5 from rfl] at this
  rw [this]
  simp only [Option.bind_some]
  rw [if_pos trivial, Lib.strOfNums_toList]
  rfl

end Go.Proofs.Ytopfaeefhicljaa.Q
