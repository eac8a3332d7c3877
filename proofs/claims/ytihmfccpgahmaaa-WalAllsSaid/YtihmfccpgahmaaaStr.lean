/- Plain facts on lists of bytes and strings: when two are the same, one behind the other, cut. Conditions: each number is a byte. -/
import Derived.Lib.Bytes
import Derived.OpenShut
import Derived.Test.YtihmfccpgahmaaaWWords
namespace Go.Proofs.Ytihmfccpgahmaaa.Str
open Go Go.Proofs.YtihmfccpgahmaaaW.PrintWords

/-- All are bytes. -/
def Byt (l : List Int) : Prop := ∀ x ∈ l, 0 ≤ x ∧ x < 256

theorem Byt.nil : Byt [] := fun _ h => by cases h
theorem Byt.append {a b : List Int} (ha : Byt a) (hb : Byt b) : Byt (a ++ b) := fun x h => (List.mem_append.mp h).elim (ha x) (hb x)
theorem Byt.cons {x : Int} {l : List Int} (h0 : 0 ≤ x) (h1 : x < 256) (hl : Byt l) : Byt (x :: l) := fun y h => (List.mem_cons.mp h).elim (fun e => e ▸ ⟨h0, h1⟩) (hl y)
theorem Byt.tail {x : Int} {l : List Int} (h : Byt (x :: l)) : Byt l := fun y hy => h y (List.mem_cons_of_mem _ hy)
theorem Byt.head {x : Int} {l : List Int} (h : Byt (x :: l)) : 0 ≤ x ∧ x < 256 := h x (List.mem_cons_self ..)
theorem Byt.drop {l : List Int} (h : Byt l) (n : Nat) : Byt (l.drop n) := fun x hx => h x (List.mem_of_mem_drop hx)
theorem Byt.take {l : List Int} (h : Byt l) (n : Nat) : Byt (l.take n) := fun x hx => h x (List.mem_of_mem_take hx)
theorem Byt.left {a b : List Int} (h : Byt (a ++ b)) : Byt a := fun x hx => h x (List.mem_append_left _ hx)
theorem Byt.right {a b : List Int} (h : Byt (a ++ b)) : Byt b := fun x hx => h x (List.mem_append_right _ hx)
theorem Byt.of_wf {l : List Int} (h : ∀ x ∈ l, (Lit.int .u8 x).wf = true) : Byt l := fun x hx => by have := bounds_u8 (h x hx); omega
theorem Byt.wf {l : List Int} (h : Byt l) : ∀ x ∈ l, (Lit.int .u8 x).wf = true := fun x hx => by
  have := h x hx
  simp [Lit.wf, IntKind.min, IntKind.max, IntKind.bits, IntKind.signed]; omega

theorem byt_str (s : ByteArray) : Byt (bytesOf s) := fun x hx => by
  unfold bytesOf at hx
  obtain ⟨b, _, rfl⟩ := List.mem_map.mp hx
  have := b.toNat_lt
  omega

theorem ofNat_toNat {x : Int} (h : 0 ≤ x ∧ x < 256) : ((UInt8.ofNat x.toNat).toNat : Int) = x := by
  have : (UInt8.ofNat x.toNat).toNat = x.toNat % 256 := by simp
  rw [this]; omega

theorem back {l : List Int} (h : Byt l) : bytesOf (strOfNums l) = l := by
  unfold bytesOf
  rw [strOfNums_data, List.map_map]
  conv => rhs; rw [← List.map_id l]
  exact List.map_congr_left fun x hx => ofNat_toNat (h x hx)

theorem inj {a b : ByteArray} (h : bytesOf a = bytesOf b) : a = b := by
  apply WideShapes.bytes_inj
  unfold bytesOf at h
  have h2 := congrArg (List.map fun x : Int => UInt8.ofNat x.toNat) h
  simpa [List.map_map, Function.comp_def] using h2

theorem str_bytesOf (s : ByteArray) : strOfNums (bytesOf s) = s := inj (back (byt_str s))

theorem str_inj {a b : List Int} (ha : Byt a) (hb : Byt b) (h : strOfNums a = strOfNums b) : a = b := by
  rw [← back ha, ← back hb, h]

theorem toList_inj {a b : ByteArray} : a.toList = b.toList ↔ a = b :=
  ⟨fun h => WideShapes.bytes_inj (by rw [Lib.toList_data, Lib.toList_data] at h; exact h), fun h => by rw [h]⟩

theorem toList_str {a b : List Int} (ha : Byt a) (hb : Byt b) : (strOfNums a).toList = (strOfNums b).toList ↔ a = b :=
  toList_inj.trans ⟨str_inj ha hb, fun h => by rw [h]⟩

theorem size_str (l : List Int) : (strOfNums l).size = l.length := strOfNums_size l

theorem str_append (a b : List Int) : strOfNums a ++ strOfNums b = strOfNums (a ++ b) := by
  apply WideShapes.bytes_inj
  rw [strOfNums_data, ByteArray.data_append, Array.toList_append, strOfNums_data, strOfNums_data, List.map_append]

theorem length_bytes (s : ByteArray) : (bytesOf s).length = s.size := bytesOf_length s

end Go.Proofs.Ytihmfccpgahmaaa.Str
