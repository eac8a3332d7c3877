/- Rec.Right, walked. Conditions: slices no longer than memory. -/
import Derived.Test.YtopfaeefhicljaaRcShim
import Derived.Test.YtopfaeefhicljaaR1
namespace Go.Proofs.Ytopfaeefhicljaa.Q
open Go Go.RowKit Go.Proofs.YtopfaeefhicljaaW.PrintWords Go.Proofs.YtopfaeefhicljaaW.PrintMore Go.Proofs.YtopfaeefhicljaaW.PrintLast Go.Proofs.Ytopfaeefhicljaa.Leb Go.Proofs.Ytopfaeefhicljaa.Str
set_option linter.unusedVariables false
set_option linter.unusedSimpArgs false
/-- A record, flat. -/
structure RcV where
  (kind num node : Int)
  key : ByteArray
  was : Bool
  old : ByteArray
  prev : Int
  nodes : List Int
  reads : List ByteArray
  pages : List S52
  opens : List S56
  dones : List S58
def RcV.b2 (x : RcV) : Bool := ((decide (x.kind < 1) || decide (8 < x.kind)) || !(tidB x.num x.node)) || ((x.kind == 8) && !((x.num == 0) && (x.node == 0)))
def RcV.b4 (x : RcV) : Bool := (x.kind == 1) && (((x.key.toList.isEmpty || decide (24 < x.key.size)) || decide (48 < x.old.size)) || (!x.was && !x.old.toList.isEmpty))
def RcV.b6 (x : RcV) : Bool := !(x.kind == 1) && ((!x.key.toList.isEmpty || x.was) || !x.old.toList.isEmpty)
def RcV.b8 (x : RcV) : Bool := (!((x.kind == 1) || (x.kind == 2)) && (!(x.prev == 0) || decide (0 < x.pages.length))) || decide (4611686018427387904 < x.prev)
def RcV.b10 (x : RcV) : Bool := (!(x.kind == 6) && decide (0 < x.nodes.length)) || !(nodesB x.nodes)
def RcV.b12 (x : RcV) : Bool := (!(x.kind == 3) && decide (0 < x.reads.length)) || !(keysB x.reads)
def RcV.b14 (x : RcV) : Bool := !(x.kind == 8) && (decide (0 < x.opens.length) || decide (0 < x.dones.length))
def RcV.b16 (x : RcV) : Bool := pagesB x.pages && tableB x.opens x.dones
def rightR (x : RcV) : Bool := !(x.b2) && (!(x.b4) && (!(x.b6) && (!(x.b8) && (!(x.b10) && (!(x.b12) && (!(x.b14) && x.b16))))))
def RcFit (x : RcV) : Prop := x.nodes.length ≤ 1000000 ∧ x.reads.length ≤ 1000000 ∧ PgFit x.pages ∧ OpFit x.opens ∧ DnFit x.dones
theorem pgFit_iff {l : List S52} : pgFitB l = true ↔ PgFit l := ⟨pgFit_of, fun h => List.all_eq_true.2 fun x hx => by have := h x hx; simpa using this⟩
theorem opFit_iff {l : List S56} : opFitB l = true ↔ OpFit l := ⟨opFit_of, fun h => List.all_eq_true.2 fun x hx => by have := h x hx; simpa using this⟩
theorem dnFit_iff {l : List S58} : dnFitB l = true ↔ DnFit l := ⟨dnFit_of, fun h => List.all_eq_true.2 fun x hx => by have := h x hx; simpa using this⟩
attribute [local go_sem high] eqA44
set_option maxRecDepth 100000 in
set_option maxHeartbeats 4000000 in
theorem right_ok (x : RcV) (A7 A8 A9 A10 A11 : Option Addr) (c7 c8 c9 c10 c11 : Nat) (w : World)
    (h7 : Kd.C (Kd.int .i64) w A7 x.nodes.length x.nodes) (l7 : x.nodes.length ≤ c7)
    (h8 : Kd.C Kd.string w A8 x.reads.length x.reads) (l8 : x.reads.length ≤ c8)
    (h9 : Kd.C k52 w A9 x.pages.length x.pages) (l9 : x.pages.length ≤ c9)
    (h10 : Kd.C k56 w A10 x.opens.length x.opens) (l10 : x.opens.length ≤ c10)
    (h11 : Kd.C k58 w A11 x.dones.length x.dones) (l11 : x.dones.length ≤ c11) (hf : RcFit x) :
    Calls Try.prog 27 #[.agg #[.int .i64 x.kind, .int .u64 x.num, .int .i64 x.node, .string x.key, .bool x.was, .string x.old, .int .u64 x.prev, .slice A7 x.nodes.length c7, .slice A8 x.reads.length c8, .slice A9 x.pages.length c9, .slice A10 x.opens.length c10, .slice A11 x.dones.length c11]] w fun e w' => e = .returned (.bool (rightR x)) ∧ Below w.heap.size w w' := by
  have H7 := Aside0.mk h7
  have H8 := Aside0.mk h8
  have H9 := Aside0.mk h9
  have H10 := Aside0.mk h10
  have H11 := Aside0.mk h11
  have HF := Aside0.mk hf
  have L7 := Aside0.mk l7
  have L8 := Aside0.mk l8
  have L9 := Aside0.mk l9
  have L10 := Aside0.mk l10
  have L11 := Aside0.mk l11
  obtain ⟨r2, hr2⟩ : ∃ b, b = x.b2 := ⟨_, rfl⟩
  obtain ⟨r4, hr4⟩ : ∃ b, b = x.b4 := ⟨_, rfl⟩
  obtain ⟨r6, hr6⟩ : ∃ b, b = x.b6 := ⟨_, rfl⟩
  obtain ⟨r8, hr8⟩ : ∃ b, b = x.b8 := ⟨_, rfl⟩
  obtain ⟨r10, hr10⟩ : ∃ b, b = x.b10 := ⟨_, rfl⟩
  obtain ⟨r12, hr12⟩ : ∃ b, b = x.b12 := ⟨_, rfl⟩
  obtain ⟨r14, hr14⟩ : ∃ b, b = x.b14 := ⟨_, rfl⟩
  have HR2 := Aside0.mk hr2
  have HR4 := Aside0.mk hr4
  have HR6 := Aside0.mk hr6
  have HR8 := Aside0.mk hr8
  have HR10 := Aside0.mk hr10
  have HR12 := Aside0.mk hr12
  have HR14 := Aside0.mk hr14
  obtain ⟨res, hres⟩ : ∃ b, b = rightR x := ⟨_, rfl⟩
  have HRES := Aside0.mk (show res = (!r2 && (!r4 && (!r6 && (!r8 && (!r10 && (!r12 && (!r14 && x.b16))))))) by rw [hres, hr2, hr4, hr6, hr8, hr10, hr12, hr14]; rfl)
  rw [← hres]
  obtain ⟨CE, hCE⟩ : ∃ c : Array Value, c = #[.int .i64 x.kind, .int .u64 x.num, .int .i64 x.node, .string x.key, .bool x.was, .string x.old, .int .u64 x.prev, .slice A7 x.nodes.length c7, .slice A8 x.reads.length c8, .slice A9 x.pages.length c9, .slice A10 x.opens.length c10, .slice A11 x.dones.length c11] := ⟨_, rfl⟩
  have HCE := Aside0.mk hCE
  obtain ⟨c1, h_c1⟩ : ∃ b, (x.kind == 1) = b := ⟨_, rfl⟩
  obtain ⟨c2, h_c2⟩ : ∃ b, (x.kind == 2) = b := ⟨_, rfl⟩
  obtain ⟨c8v, h_c8v⟩ : ∃ b, (x.kind == 8) = b := ⟨_, rfl⟩
  obtain ⟨c6v, h_c6v⟩ : ∃ b, (x.kind == 6) = b := ⟨_, rfl⟩
  obtain ⟨c3v, h_c3v⟩ : ∃ b, (x.kind == 3) = b := ⟨_, rfl⟩
  obtain ⟨a1, h_a1⟩ : ∃ b, decide (x.kind < 1) = b := ⟨_, rfl⟩
  obtain ⟨a2, h_a2⟩ : ∃ b, decide (8 < x.kind) = b := ⟨_, rfl⟩
  obtain ⟨tt, h_tt⟩ : ∃ b, tidB x.num x.node = b := ⟨_, rfl⟩
  obtain ⟨nz, h_nz⟩ : ∃ b, ((x.num == 0) && (x.node == 0)) = b := ⟨_, rfl⟩
  obtain ⟨e1, h_e1⟩ : ∃ b, x.key.toList.isEmpty = b := ⟨_, rfl⟩
  obtain ⟨a24, h_a24⟩ : ∃ b, decide (24 < x.key.size) = b := ⟨_, rfl⟩
  obtain ⟨a48, h_a48⟩ : ∃ b, decide (48 < x.old.size) = b := ⟨_, rfl⟩
  obtain ⟨wv, h_wv⟩ : ∃ b, x.was = b := ⟨_, rfl⟩
  obtain ⟨e2, h_e2⟩ : ∃ b, x.old.toList.isEmpty = b := ⟨_, rfl⟩
  obtain ⟨p0, h_p0⟩ : ∃ b, (x.prev == 0) = b := ⟨_, rfl⟩
  obtain ⟨pl, h_pl⟩ : ∃ b, decide (0 < x.pages.length) = b := ⟨_, rfl⟩
  obtain ⟨gp, h_gp⟩ : ∃ b, decide (4611686018427387904 < x.prev) = b := ⟨_, rfl⟩
  obtain ⟨ln, h_ln⟩ : ∃ b, decide (0 < x.nodes.length) = b := ⟨_, rfl⟩
  obtain ⟨nb, h_nb⟩ : ∃ b, nodesB x.nodes = b := ⟨_, rfl⟩
  obtain ⟨lr, h_lr⟩ : ∃ b, decide (0 < x.reads.length) = b := ⟨_, rfl⟩
  obtain ⟨kb, h_kb⟩ : ∃ b, keysB x.reads = b := ⟨_, rfl⟩
  obtain ⟨lo, h_lo⟩ : ∃ b, decide (0 < x.opens.length) = b := ⟨_, rfl⟩
  obtain ⟨ld, h_ld⟩ : ∃ b, decide (0 < x.dones.length) = b := ⟨_, rfl⟩
  obtain ⟨pb, h_pb⟩ : ∃ b, pagesB x.pages = b := ⟨_, rfl⟩
  obtain ⟨tb, h_tb⟩ : ∃ b, tableB x.opens x.dones = b := ⟨_, rfl⟩
  have E_r2 := Aside0.mk (show r2 = (((a1 || a2) || !tt) || (c8v && !nz)) by rw [HR2.out, ← h_c8v, ← h_a1, ← h_a2, ← h_tt, ← h_nz]; rfl)
  have E_r4 := Aside0.mk (show r4 = (c1 && (((e1 || a24) || a48) || (!wv && !e2))) by rw [HR4.out, ← h_c1, ← h_e1, ← h_a24, ← h_a48, ← h_wv, ← h_e2]; rfl)
  have E_r6 := Aside0.mk (show r6 = (!c1 && ((!e1 || wv) || !e2)) by rw [HR6.out, ← h_c1, ← h_e1, ← h_wv, ← h_e2]; rfl)
  have E_r8 := Aside0.mk (show r8 = ((!(c1 || c2) && (!p0 || pl)) || gp) by rw [HR8.out, ← h_c1, ← h_c2, ← h_p0, ← h_pl, ← h_gp]; rfl)
  have E_r10 := Aside0.mk (show r10 = ((!c6v && ln) || !nb) by rw [HR10.out, ← h_c6v, ← h_ln, ← h_nb]; rfl)
  have E_r12 := Aside0.mk (show r12 = ((!c3v && lr) || !kb) by rw [HR12.out, ← h_c3v, ← h_lr, ← h_kb]; rfl)
  have E_r14 := Aside0.mk (show r14 = (!c8v && (lo || ld)) by rw [HR14.out, ← h_c8v, ← h_lo, ← h_ld]; rfl)
  have H_c1 := Aside0.mk h_c1
  have H_c2 := Aside0.mk h_c2
  have H_c8v := Aside0.mk h_c8v
  have H_c6v := Aside0.mk h_c6v
  have H_c3v := Aside0.mk h_c3v
  have H_a1 := Aside0.mk h_a1
  have H_a2 := Aside0.mk h_a2
  have H_tt := Aside0.mk h_tt
  have H_nz := Aside0.mk h_nz
  have H_e1 := Aside0.mk h_e1
  have H_a24 := Aside0.mk h_a24
  have H_a48 := Aside0.mk h_a48
  have H_wv := Aside0.mk h_wv
  have H_e2 := Aside0.mk h_e2
  have H_p0 := Aside0.mk h_p0
  have H_pl := Aside0.mk h_pl
  have H_gp := Aside0.mk h_gp
  have H_ln := Aside0.mk h_ln
  have H_nb := Aside0.mk h_nb
  have H_lr := Aside0.mk h_lr
  have H_kb := Aside0.mk h_kb
  have H_lo := Aside0.mk h_lo
  have H_ld := Aside0.mk h_ld
  have H_pb := Aside0.mk h_pb
  have H_tb := Aside0.mk h_tb
  clear h_c1 h_c2 h_c8v h_c6v h_c3v h_a1 h_a2 h_tt h_nz h_e1 h_a24 h_a48 h_wv h_e2 h_p0 h_pl h_gp h_ln h_nb h_lr h_kb h_lo h_ld h_pb h_tb
  have HRES2 := Aside0.mk (show res = (!r2 && (!r4 && (!r6 && (!r8 && (!r10 && (!r12 && (!r14 && (pb && tb)))))))) by rw [HRES.out, ← H_pb.out, ← H_tb.out]; rfl)
  clear HRES
  clear hres hr2 hr4 hr6 hr8 hr10 hr12 hr14 h7 h8 h9 h10 h11 hf l7 l8 l9 l10 l11 hCE
  have HB := Aside0.mk (Below.refl w.heap.size w)
  go_enter Try.func27, Try.ntmps27
  go_upto_region 1 with (first | ((with_reducible refine gate_dst (N := 1) rfl ?_); (try (refine gate_guard (by rfl) ?_; dsimp only)); refine box_event ?hg (N := 1) ?hd (cs := #[.int .i64 x.kind, .int .u64 x.num, .int .i64 x.node, .string x.key, .bool x.was, .string x.old, .int .u64 x.prev, .slice A7 x.nodes.length c7, .slice A8 x.reads.length c8, .slice A9 x.pages.length c9, .slice A10 x.opens.length c10, .slice A11 x.dones.length c11]) (t := 50) ?hr ?_; (case hd => rfl); (case hg => rfl); (case hr => first | (go_simp; done) | (go_simp; rfl)); intro KB hg w3 hbox hb; have n0_ := Aside0.mk (below_step HB.out hb); have n1_ := Aside0.mk hbox; clear HB; have HB := n0_; have BK := n1_; clear n0_ n1_; clear hb hbox hg))
  rw [← HCE.out] at BK
  clear HR2 HR4 HR6 HR8 HR10 HR12 HR14
  have HTT := Aside0.mk (show rec_rightTid.f x.num x.node = some tt by rw [← H_tt.out]; exact tid_f _ _)
  have HNB := Aside0.mk (show rec_risingNodes.f 1000001 x.nodes = some nb by rw [← H_nb.out]; exact nodes_f x.nodes 1000001 (by have := HF.out.1; omega) (by have := HF.out.1; omega))
  have HKB := Aside0.mk (show rec_rightKeys.f 1000001 x.reads = some kb by rw [← H_kb.out]; exact keys_f x.reads 1000001 (by have := HF.out.2.1; omega) (by have := HF.out.2.1; omega))
  have HPB := Aside0.mk (show rec_rightPages.f 1 x.pages = some pb by rw [← H_pb.out]; unfold rec_rightPages.f; rw [if_pos (pgFit_iff.2 HF.out.2.2.1)])
  have HTB := Aside0.mk (show rec_rightTable.f 1 x.opens x.dones = some tb by rw [← H_tb.out]; unfold rec_rightTable.f; rw [if_pos (by rw [opFit_iff.2 HF.out.2.2.2.1, dnFit_iff.2 HF.out.2.2.2.2]; rfl)])
  obtain ⟨pv, hpv⟩ : ∃ b, b = (c1 || c2) := ⟨_, rfl⟩
  have HPV := Aside0.mk hpv
  clear hpv
  have E_r8 := Aside0.mk (show r8 = ((!pv && (!p0 || pl)) || gp) by rw [HPV.out]; exact E_r8.out)
  go_cut [3, 4] (fun v3 v4 w' => v3 = .bool pv ∧ v4 = .bool c8v ∧ Aside0 (Below w.heap.size w w') ∧ Aside0 (w'.heap[KB]? = some (.cells CE 50 (0, 0))))
  case first =>
   as_aux_lemma =>
    have z_kind : w3.cell? ⟨KB, 0, none⟩ = some (.int .i64 x.kind) := (blk_cell BK.out 0).trans (by rw [HCE.out]; rfl)
    have h_c1 := H_c1.out
    have g_c1 : (x.kind != 1) = !c1 := by rw [← h_c1]; rfl
    have h_c2 := H_c2.out
    have g_c2 : (x.kind != 2) = !c2 := by rw [← h_c2]; rfl
    have h_c8v := H_c8v.out
    have g_c8v : (x.kind != 8) = !c8v := by rw [← h_c8v]; rfl
    cases c1
    all_goals
      go_wp2
      repeat (go_quiet (fail); try go_wp2)
      go_meet
      case rel => exact ⟨by rw [HPV.out]; first | rfl | simp, by first | rfl | simp, ⟨by repeat (first | exact HB.out | refine below_step ?_ hb_.below | refine below_step ?_ hb_ | refine below_drew1 ?_ | refine pw_below_drewN ?_ _)⟩, ⟨by repeat (first | exact BK.out | refine (hb_.below.block KB (blk_lt BK.out)).trans ?_ | refine (hb_.block KB (blk_lt BK.out)).trans ?_ | refine blk_drewN ?_ _ | refine blk_drew ?_)⟩⟩
  case rest =>
    clear HB BK
    obtain ⟨rfl, rfl, HB, BK⟩ := hcut
    go_upto_region 2 with (fail)
    go_cut [16] (fun v w' => v = .bool r2 ∧ Aside0 (Below w.heap.size w w') ∧ Aside0 (w'.heap[KB]? = some (.cells CE 50 (0, 0))))
    case first =>
     as_aux_lemma =>
      have z_kind : wc.cell? ⟨KB, 0, none⟩ = some (.int .i64 x.kind) := (blk_cell BK.out 0).trans (by rw [HCE.out]; rfl)
      have z_num : wc.cell? ⟨KB, 1, none⟩ = some (.int .u64 x.num) := (blk_cell BK.out 1).trans (by rw [HCE.out]; rfl)
      have z_node : wc.cell? ⟨KB, 2, none⟩ = some (.int .i64 x.node) := (blk_cell BK.out 2).trans (by rw [HCE.out]; rfl)
      have h_a1 := H_a1.out
      have h_a2 := H_a2.out
      have h_nz := H_nz.out
      cases a1 with
      | true =>
        go_wp2
        go_meet
        case rel => exact ⟨by first | rfl | (rw [E_r2.out]; simp; done) | (rw [E_r2.out]; rfl), ⟨by repeat (first | exact HB.out | refine below_step ?_ hb_.below | refine below_step ?_ hb_ | refine below_drew1 ?_ | refine pw_below_drewN ?_ _)⟩, ⟨by repeat (first | exact BK.out | refine (hb_.below.block KB (blk_lt BK.out)).trans ?_ | refine (hb_.block KB (blk_lt BK.out)).trans ?_ | refine blk_drewN ?_ _ | refine blk_drew ?_)⟩⟩
      | false =>
        cases a2 with
        | true =>
          go_wp2
          go_meet
          case rel => exact ⟨by first | rfl | (rw [E_r2.out]; simp; done) | (rw [E_r2.out]; rfl), ⟨by repeat (first | exact HB.out | refine below_step ?_ hb_.below | refine below_step ?_ hb_ | refine below_drew1 ?_ | refine pw_below_drewN ?_ _)⟩, ⟨by repeat (first | exact BK.out | refine (hb_.below.block KB (blk_lt BK.out)).trans ?_ | refine (hb_.block KB (blk_lt BK.out)).trans ?_ | refine blk_drewN ?_ _ | refine blk_drew ?_)⟩⟩
        | false =>
          cases tt with
          | true =>
            cases c8v with
            | true =>
              go_wp2_with (go_at_call 59; refine (rec_rightTid.calls x.num x.node _ _ HTT.out).mono ?_; rintro e_ wn_ ⟨rfl, hb_⟩; have BK2_ := (hb_.block KB (blk_lt BK.out)).trans BK.out; have y1_ : wn_.cell? ⟨KB, 1, none⟩ = some (.int .u64 x.num) := (blk_cell BK2_ 1).trans (by rw [HCE.out]; rfl); have y2_ : wn_.cell? ⟨KB, 2, none⟩ = some (.int .i64 x.node) := (blk_cell BK2_ 2).trans (by rw [HCE.out]; rfl))
              go_meet
              case rel => exact ⟨by first | rfl | (rw [E_r2.out]; simp; done) | (rw [E_r2.out]; rfl), ⟨by repeat (first | exact HB.out | refine below_step ?_ hb_.below | refine below_step ?_ hb_ | refine below_drew1 ?_ | refine pw_below_drewN ?_ _)⟩, ⟨by repeat (first | exact BK.out | refine (hb_.below.block KB (blk_lt BK.out)).trans ?_ | refine (hb_.block KB (blk_lt BK.out)).trans ?_ | refine blk_drewN ?_ _ | refine blk_drew ?_)⟩⟩
            | false =>
              go_wp2_with (go_at_call 59; refine (rec_rightTid.calls x.num x.node _ _ HTT.out).mono ?_; rintro e_ wn_ ⟨rfl, hb_⟩; have BK2_ := (hb_.block KB (blk_lt BK.out)).trans BK.out; have y1_ : wn_.cell? ⟨KB, 1, none⟩ = some (.int .u64 x.num) := (blk_cell BK2_ 1).trans (by rw [HCE.out]; rfl); have y2_ : wn_.cell? ⟨KB, 2, none⟩ = some (.int .i64 x.node) := (blk_cell BK2_ 2).trans (by rw [HCE.out]; rfl))
              go_meet
              case rel => exact ⟨by first | rfl | (rw [E_r2.out]; simp; done) | (rw [E_r2.out]; rfl), ⟨by repeat (first | exact HB.out | refine below_step ?_ hb_.below | refine below_step ?_ hb_ | refine below_drew1 ?_ | refine pw_below_drewN ?_ _)⟩, ⟨by repeat (first | exact BK.out | refine (hb_.below.block KB (blk_lt BK.out)).trans ?_ | refine (hb_.block KB (blk_lt BK.out)).trans ?_ | refine blk_drewN ?_ _ | refine blk_drew ?_)⟩⟩
          | false =>
            go_wp2_with (go_at_call 59; refine (rec_rightTid.calls x.num x.node _ _ HTT.out).mono ?_; rintro e_ wn_ ⟨rfl, hb_⟩; have BK2_ := (hb_.block KB (blk_lt BK.out)).trans BK.out; have y1_ : wn_.cell? ⟨KB, 1, none⟩ = some (.int .u64 x.num) := (blk_cell BK2_ 1).trans (by rw [HCE.out]; rfl); have y2_ : wn_.cell? ⟨KB, 2, none⟩ = some (.int .i64 x.node) := (blk_cell BK2_ 2).trans (by rw [HCE.out]; rfl))
            go_meet
            case rel => exact ⟨by first | rfl | (rw [E_r2.out]; simp; done) | (rw [E_r2.out]; rfl), ⟨by repeat (first | exact HB.out | refine below_step ?_ hb_.below | refine below_step ?_ hb_ | refine below_drew1 ?_ | refine pw_below_drewN ?_ _)⟩, ⟨by repeat (first | exact BK.out | refine (hb_.below.block KB (blk_lt BK.out)).trans ?_ | refine (hb_.block KB (blk_lt BK.out)).trans ?_ | refine blk_drewN ?_ _ | refine blk_drew ?_)⟩⟩
    case rest =>
      clear HB BK
      obtain ⟨rfl, HB, BK⟩ := hcut
      cases r2 with
      | true =>
        go_wp2
        go_ret
        exact ⟨by rw [HRES2.out]; simp, HB.out⟩
      | false =>
        go_upto_region 4 with (fail)
        go_cut [40] (fun v w' => v = .bool r4 ∧ Aside0 (Below w.heap.size w w') ∧ Aside0 (w'.heap[KB]? = some (.cells CE 50 (0, 0))))
        case first =>
         as_aux_lemma =>
          have z_kind : wc.cell? ⟨KB, 0, none⟩ = some (.int .i64 x.kind) := (blk_cell BK.out 0).trans (by rw [HCE.out]; rfl)
          have z_key : wc.cell? ⟨KB, 3, none⟩ = some (.string x.key) := (blk_cell BK.out 3).trans (by rw [HCE.out]; rfl)
          have z_was : wc.cell? ⟨KB, 4, none⟩ = some (.bool x.was) := (blk_cell BK.out 4).trans (by rw [HCE.out]; rfl)
          have z_old : wc.cell? ⟨KB, 5, none⟩ = some (.string x.old) := (blk_cell BK.out 5).trans (by rw [HCE.out]; rfl)
          have h_c1 := H_c1.out
          have g_c1 : (x.kind != 1) = !c1 := by rw [← h_c1]; rfl
          have h_e1 := H_e1.out
          have h_a24 := H_a24.out
          have g_a24 : decide ((24 : Int) < ((x.key.size : Nat) : Int)) = a24 := by rw [← h_a24]; exact decide_eq_decide.2 (by omega)
          have h_a48 := H_a48.out
          have g_a48 : decide ((48 : Int) < ((x.old.size : Nat) : Int)) = a48 := by rw [← h_a48]; exact decide_eq_decide.2 (by omega)
          have h_wv := H_wv.out
          have h_e2 := H_e2.out
          cases c1 with
          | true =>
            cases e1 with
            | true =>
              go_wp2
              go_meet
              case rel => exact ⟨by first | rfl | (rw [E_r4.out]; simp; done) | (rw [E_r4.out]; rfl), ⟨by repeat (first | exact HB.out | refine below_step ?_ hb_.below | refine below_step ?_ hb_ | refine below_drew1 ?_ | refine pw_below_drewN ?_ _)⟩, ⟨by repeat (first | exact BK.out | refine (hb_.below.block KB (blk_lt BK.out)).trans ?_ | refine (hb_.block KB (blk_lt BK.out)).trans ?_ | refine blk_drewN ?_ _ | refine blk_drew ?_)⟩⟩
            | false =>
              cases a24 with
              | true =>
                go_wp2
                go_meet
                case rel => exact ⟨by first | rfl | (rw [E_r4.out]; simp; done) | (rw [E_r4.out]; rfl), ⟨by repeat (first | exact HB.out | refine below_step ?_ hb_.below | refine below_step ?_ hb_ | refine below_drew1 ?_ | refine pw_below_drewN ?_ _)⟩, ⟨by repeat (first | exact BK.out | refine (hb_.below.block KB (blk_lt BK.out)).trans ?_ | refine (hb_.block KB (blk_lt BK.out)).trans ?_ | refine blk_drewN ?_ _ | refine blk_drew ?_)⟩⟩
              | false =>
                cases a48 with
                | true =>
                  go_wp2
                  go_meet
                  case rel => exact ⟨by first | rfl | (rw [E_r4.out]; simp; done) | (rw [E_r4.out]; rfl), ⟨by repeat (first | exact HB.out | refine below_step ?_ hb_.below | refine below_step ?_ hb_ | refine below_drew1 ?_ | refine pw_below_drewN ?_ _)⟩, ⟨by repeat (first | exact BK.out | refine (hb_.below.block KB (blk_lt BK.out)).trans ?_ | refine (hb_.block KB (blk_lt BK.out)).trans ?_ | refine blk_drewN ?_ _ | refine blk_drew ?_)⟩⟩
                | false =>
                  cases wv with
                  | true =>
                    go_wp2
                    go_meet
                    case rel => exact ⟨by first | rfl | (rw [E_r4.out]; simp; done) | (rw [E_r4.out]; rfl), ⟨by repeat (first | exact HB.out | refine below_step ?_ hb_.below | refine below_step ?_ hb_ | refine below_drew1 ?_ | refine pw_below_drewN ?_ _)⟩, ⟨by repeat (first | exact BK.out | refine (hb_.below.block KB (blk_lt BK.out)).trans ?_ | refine (hb_.block KB (blk_lt BK.out)).trans ?_ | refine blk_drewN ?_ _ | refine blk_drew ?_)⟩⟩
                  | false =>
                    go_wp2
                    go_meet
                    case rel => exact ⟨by first | rfl | (rw [E_r4.out]; simp; done) | (rw [E_r4.out]; rfl), ⟨by repeat (first | exact HB.out | refine below_step ?_ hb_.below | refine below_step ?_ hb_ | refine below_drew1 ?_ | refine pw_below_drewN ?_ _)⟩, ⟨by repeat (first | exact BK.out | refine (hb_.below.block KB (blk_lt BK.out)).trans ?_ | refine (hb_.block KB (blk_lt BK.out)).trans ?_ | refine blk_drewN ?_ _ | refine blk_drew ?_)⟩⟩
          | false =>
            go_wp2
            go_meet
            case rel => exact ⟨by first | rfl | (rw [E_r4.out]; simp; done) | (rw [E_r4.out]; rfl), ⟨by repeat (first | exact HB.out | refine below_step ?_ hb_.below | refine below_step ?_ hb_ | refine below_drew1 ?_ | refine pw_below_drewN ?_ _)⟩, ⟨by repeat (first | exact BK.out | refine (hb_.below.block KB (blk_lt BK.out)).trans ?_ | refine (hb_.block KB (blk_lt BK.out)).trans ?_ | refine blk_drewN ?_ _ | refine blk_drew ?_)⟩⟩
        case rest =>
          clear HB BK
          obtain ⟨rfl, HB, BK⟩ := hcut
          cases r4 with
          | true =>
            go_wp2
            go_ret
            exact ⟨by rw [HRES2.out]; simp, HB.out⟩
          | false =>
            go_upto_region 6 with (fail)
            go_cut [71] (fun v w' => v = .bool r6 ∧ Aside0 (Below w.heap.size w w') ∧ Aside0 (w'.heap[KB]? = some (.cells CE 50 (0, 0))))
            case first =>
             as_aux_lemma =>
              have z_kind : wc.cell? ⟨KB, 0, none⟩ = some (.int .i64 x.kind) := (blk_cell BK.out 0).trans (by rw [HCE.out]; rfl)
              have z_key : wc.cell? ⟨KB, 3, none⟩ = some (.string x.key) := (blk_cell BK.out 3).trans (by rw [HCE.out]; rfl)
              have z_was : wc.cell? ⟨KB, 4, none⟩ = some (.bool x.was) := (blk_cell BK.out 4).trans (by rw [HCE.out]; rfl)
              have z_old : wc.cell? ⟨KB, 5, none⟩ = some (.string x.old) := (blk_cell BK.out 5).trans (by rw [HCE.out]; rfl)
              have h_c1 := H_c1.out
              have g_c1 : (x.kind != 1) = !c1 := by rw [← h_c1]; rfl
              have h_e1 := H_e1.out
              have h_wv := H_wv.out
              have h_e2 := H_e2.out
              cases c1 with
              | true =>
                go_wp2
                go_meet
                case rel => exact ⟨by first | rfl | (rw [E_r6.out]; simp; done) | (rw [E_r6.out]; rfl), ⟨by repeat (first | exact HB.out | refine below_step ?_ hb_.below | refine below_step ?_ hb_ | refine below_drew1 ?_ | refine pw_below_drewN ?_ _)⟩, ⟨by repeat (first | exact BK.out | refine (hb_.below.block KB (blk_lt BK.out)).trans ?_ | refine (hb_.block KB (blk_lt BK.out)).trans ?_ | refine blk_drewN ?_ _ | refine blk_drew ?_)⟩⟩
              | false =>
                cases e1 with
                | true =>
                  cases wv with
                  | true =>
                    go_wp2
                    go_meet
                    case rel => exact ⟨by first | rfl | (rw [E_r6.out]; simp; done) | (rw [E_r6.out]; rfl), ⟨by repeat (first | exact HB.out | refine below_step ?_ hb_.below | refine below_step ?_ hb_ | refine below_drew1 ?_ | refine pw_below_drewN ?_ _)⟩, ⟨by repeat (first | exact BK.out | refine (hb_.below.block KB (blk_lt BK.out)).trans ?_ | refine (hb_.block KB (blk_lt BK.out)).trans ?_ | refine blk_drewN ?_ _ | refine blk_drew ?_)⟩⟩
                  | false =>
                    go_wp2
                    go_meet
                    case rel => exact ⟨by first | rfl | (rw [E_r6.out]; simp; done) | (rw [E_r6.out]; rfl), ⟨by repeat (first | exact HB.out | refine below_step ?_ hb_.below | refine below_step ?_ hb_ | refine below_drew1 ?_ | refine pw_below_drewN ?_ _)⟩, ⟨by repeat (first | exact BK.out | refine (hb_.below.block KB (blk_lt BK.out)).trans ?_ | refine (hb_.block KB (blk_lt BK.out)).trans ?_ | refine blk_drewN ?_ _ | refine blk_drew ?_)⟩⟩
                | false =>
                  go_wp2
                  go_meet
                  case rel => exact ⟨by first | rfl | (rw [E_r6.out]; simp; done) | (rw [E_r6.out]; rfl), ⟨by repeat (first | exact HB.out | refine below_step ?_ hb_.below | refine below_step ?_ hb_ | refine below_drew1 ?_ | refine pw_below_drewN ?_ _)⟩, ⟨by repeat (first | exact BK.out | refine (hb_.below.block KB (blk_lt BK.out)).trans ?_ | refine (hb_.block KB (blk_lt BK.out)).trans ?_ | refine blk_drewN ?_ _ | refine blk_drew ?_)⟩⟩
            case rest =>
              clear HB BK
              obtain ⟨rfl, HB, BK⟩ := hcut
              cases r6 with
              | true =>
                go_wp2
                go_ret
                exact ⟨by rw [HRES2.out]; simp, HB.out⟩
              | false =>
                go_upto_region 8 with (fail)
                go_cut [89] (fun v w' => v = .bool r8 ∧ Aside0 (Below w.heap.size w w') ∧ Aside0 (w'.heap[KB]? = some (.cells CE 50 (0, 0))))
                case first =>
                 as_aux_lemma =>
                  have z_prev : wc.cell? ⟨KB, 6, none⟩ = some (.int .u64 x.prev) := (blk_cell BK.out 6).trans (by rw [HCE.out]; rfl)
                  have z_pages : wc.cell? ⟨KB, 9, none⟩ = some (.slice A9 x.pages.length c9) := (blk_cell BK.out 9).trans (by rw [HCE.out]; rfl)
                  have h_p0 := H_p0.out
                  have g_p0 : (x.prev != 0) = !p0 := by rw [← h_p0]; rfl
                  have h_pl := H_pl.out
                  have g_pl : decide ((0 : Int) < ((x.pages.length : Nat) : Int)) = pl := by rw [← h_pl]; exact decide_eq_decide.2 (by omega)
                  have h_gp := H_gp.out
                  cases pv with
                  | true =>
                    go_wp2
                    go_meet
                    case rel => exact ⟨by first | rfl | (rw [E_r8.out]; simp; done) | (rw [E_r8.out]; rfl), ⟨by repeat (first | exact HB.out | refine below_step ?_ hb_.below | refine below_step ?_ hb_ | refine below_drew1 ?_ | refine pw_below_drewN ?_ _)⟩, ⟨by repeat (first | exact BK.out | refine (hb_.below.block KB (blk_lt BK.out)).trans ?_ | refine (hb_.block KB (blk_lt BK.out)).trans ?_ | refine blk_drewN ?_ _ | refine blk_drew ?_)⟩⟩
                  | false =>
                    cases p0 with
                    | true =>
                      cases pl with
                      | true =>
                        go_wp2
                        go_meet
                        case rel => exact ⟨by first | rfl | (rw [E_r8.out]; simp; done) | (rw [E_r8.out]; rfl), ⟨by repeat (first | exact HB.out | refine below_step ?_ hb_.below | refine below_step ?_ hb_ | refine below_drew1 ?_ | refine pw_below_drewN ?_ _)⟩, ⟨by repeat (first | exact BK.out | refine (hb_.below.block KB (blk_lt BK.out)).trans ?_ | refine (hb_.block KB (blk_lt BK.out)).trans ?_ | refine blk_drewN ?_ _ | refine blk_drew ?_)⟩⟩
                      | false =>
                        go_wp2
                        go_meet
                        case rel => exact ⟨by first | rfl | (rw [E_r8.out]; simp; done) | (rw [E_r8.out]; rfl), ⟨by repeat (first | exact HB.out | refine below_step ?_ hb_.below | refine below_step ?_ hb_ | refine below_drew1 ?_ | refine pw_below_drewN ?_ _)⟩, ⟨by repeat (first | exact BK.out | refine (hb_.below.block KB (blk_lt BK.out)).trans ?_ | refine (hb_.block KB (blk_lt BK.out)).trans ?_ | refine blk_drewN ?_ _ | refine blk_drew ?_)⟩⟩
                    | false =>
                      go_wp2
                      go_meet
                      case rel => exact ⟨by first | rfl | (rw [E_r8.out]; simp; done) | (rw [E_r8.out]; rfl), ⟨by repeat (first | exact HB.out | refine below_step ?_ hb_.below | refine below_step ?_ hb_ | refine below_drew1 ?_ | refine pw_below_drewN ?_ _)⟩, ⟨by repeat (first | exact BK.out | refine (hb_.below.block KB (blk_lt BK.out)).trans ?_ | refine (hb_.block KB (blk_lt BK.out)).trans ?_ | refine blk_drewN ?_ _ | refine blk_drew ?_)⟩⟩
                case rest =>
                  clear HB BK
                  obtain ⟨rfl, HB, BK⟩ := hcut
                  cases r8 with
                  | true =>
                    go_wp2
                    go_ret
                    exact ⟨by rw [HRES2.out]; simp, HB.out⟩
                  | false =>
                    go_upto_region 10 with (fail)
                    go_cut [108] (fun v w' => v = .bool r10 ∧ Aside0 (Below w.heap.size w w') ∧ Aside0 (w'.heap[KB]? = some (.cells CE 50 (0, 0))))
                    case first =>
                     as_aux_lemma =>
                      have z_kind : wc.cell? ⟨KB, 0, none⟩ = some (.int .i64 x.kind) := (blk_cell BK.out 0).trans (by rw [HCE.out]; rfl)
                      have z_nodes : wc.cell? ⟨KB, 7, none⟩ = some (.slice A7 x.nodes.length c7) := (blk_cell BK.out 7).trans (by rw [HCE.out]; rfl)
                      have h_c6v := H_c6v.out
                      have g_c6v : (x.kind != 6) = !c6v := by rw [← h_c6v]; rfl
                      have h_ln := H_ln.out
                      have g_ln : decide ((0 : Int) < ((x.nodes.length : Nat) : Int)) = ln := by rw [← h_ln]; exact decide_eq_decide.2 (by omega)
                      cases c6v with
                      | true =>
                        go_wp2_with (go_at_call 60; refine (rec_risingNodes.calls 1000001 A7 c7 x.nodes _ _ (Kd.C_below H7.out HB.out) L7.out HNB.out).mono ?_; rintro e_ wn_ ⟨rfl, hb_⟩)
                        go_meet
                        case rel => exact ⟨by first | rfl | (rw [E_r10.out]; simp; done) | (rw [E_r10.out]; rfl), ⟨by repeat (first | exact HB.out | refine below_step ?_ hb_.below | refine below_step ?_ hb_ | refine below_drew1 ?_ | refine pw_below_drewN ?_ _)⟩, ⟨by repeat (first | exact BK.out | refine (hb_.below.block KB (blk_lt BK.out)).trans ?_ | refine (hb_.block KB (blk_lt BK.out)).trans ?_ | refine blk_drewN ?_ _ | refine blk_drew ?_)⟩⟩
                      | false =>
                        cases ln with
                        | true =>
                          go_wp2
                          go_meet
                          case rel => exact ⟨by first | rfl | (rw [E_r10.out]; simp; done) | (rw [E_r10.out]; rfl), ⟨by repeat (first | exact HB.out | refine below_step ?_ hb_.below | refine below_step ?_ hb_ | refine below_drew1 ?_ | refine pw_below_drewN ?_ _)⟩, ⟨by repeat (first | exact BK.out | refine (hb_.below.block KB (blk_lt BK.out)).trans ?_ | refine (hb_.block KB (blk_lt BK.out)).trans ?_ | refine blk_drewN ?_ _ | refine blk_drew ?_)⟩⟩
                        | false =>
                          go_wp2_with (go_at_call 60; refine (rec_risingNodes.calls 1000001 A7 c7 x.nodes _ _ (Kd.C_below H7.out HB.out) L7.out HNB.out).mono ?_; rintro e_ wn_ ⟨rfl, hb_⟩)
                          go_meet
                          case rel => exact ⟨by first | rfl | (rw [E_r10.out]; simp; done) | (rw [E_r10.out]; rfl), ⟨by repeat (first | exact HB.out | refine below_step ?_ hb_.below | refine below_step ?_ hb_ | refine below_drew1 ?_ | refine pw_below_drewN ?_ _)⟩, ⟨by repeat (first | exact BK.out | refine (hb_.below.block KB (blk_lt BK.out)).trans ?_ | refine (hb_.block KB (blk_lt BK.out)).trans ?_ | refine blk_drewN ?_ _ | refine blk_drew ?_)⟩⟩
                    case rest =>
                      clear HB BK
                      obtain ⟨rfl, HB, BK⟩ := hcut
                      cases r10 with
                      | true =>
                        go_wp2
                        go_ret
                        exact ⟨by rw [HRES2.out]; simp, HB.out⟩
                      | false =>
                        go_upto_region 12 with (fail)
                        go_cut [124] (fun v w' => v = .bool r12 ∧ Aside0 (Below w.heap.size w w') ∧ Aside0 (w'.heap[KB]? = some (.cells CE 50 (0, 0))))
                        case first =>
                         as_aux_lemma =>
                          have z_kind : wc.cell? ⟨KB, 0, none⟩ = some (.int .i64 x.kind) := (blk_cell BK.out 0).trans (by rw [HCE.out]; rfl)
                          have z_reads : wc.cell? ⟨KB, 8, none⟩ = some (.slice A8 x.reads.length c8) := (blk_cell BK.out 8).trans (by rw [HCE.out]; rfl)
                          have h_c3v := H_c3v.out
                          have g_c3v : (x.kind != 3) = !c3v := by rw [← h_c3v]; rfl
                          have h_lr := H_lr.out
                          have g_lr : decide ((0 : Int) < ((x.reads.length : Nat) : Int)) = lr := by rw [← h_lr]; exact decide_eq_decide.2 (by omega)
                          cases c3v with
                          | true =>
                            go_wp2_with (go_at_call 61; refine (rec_rightKeys.calls 1000001 A8 c8 x.reads _ _ (Kd.C_below H8.out HB.out) L8.out HKB.out).mono ?_; rintro e_ wn_ ⟨rfl, hb_⟩)
                            go_meet
                            case rel => exact ⟨by first | rfl | (rw [E_r12.out]; simp; done) | (rw [E_r12.out]; rfl), ⟨by repeat (first | exact HB.out | refine below_step ?_ hb_.below | refine below_step ?_ hb_ | refine below_drew1 ?_ | refine pw_below_drewN ?_ _)⟩, ⟨by repeat (first | exact BK.out | refine (hb_.below.block KB (blk_lt BK.out)).trans ?_ | refine (hb_.block KB (blk_lt BK.out)).trans ?_ | refine blk_drewN ?_ _ | refine blk_drew ?_)⟩⟩
                          | false =>
                            cases lr with
                            | true =>
                              go_wp2
                              go_meet
                              case rel => exact ⟨by first | rfl | (rw [E_r12.out]; simp; done) | (rw [E_r12.out]; rfl), ⟨by repeat (first | exact HB.out | refine below_step ?_ hb_.below | refine below_step ?_ hb_ | refine below_drew1 ?_ | refine pw_below_drewN ?_ _)⟩, ⟨by repeat (first | exact BK.out | refine (hb_.below.block KB (blk_lt BK.out)).trans ?_ | refine (hb_.block KB (blk_lt BK.out)).trans ?_ | refine blk_drewN ?_ _ | refine blk_drew ?_)⟩⟩
                            | false =>
                              go_wp2_with (go_at_call 61; refine (rec_rightKeys.calls 1000001 A8 c8 x.reads _ _ (Kd.C_below H8.out HB.out) L8.out HKB.out).mono ?_; rintro e_ wn_ ⟨rfl, hb_⟩)
                              go_meet
                              case rel => exact ⟨by first | rfl | (rw [E_r12.out]; simp; done) | (rw [E_r12.out]; rfl), ⟨by repeat (first | exact HB.out | refine below_step ?_ hb_.below | refine below_step ?_ hb_ | refine below_drew1 ?_ | refine pw_below_drewN ?_ _)⟩, ⟨by repeat (first | exact BK.out | refine (hb_.below.block KB (blk_lt BK.out)).trans ?_ | refine (hb_.block KB (blk_lt BK.out)).trans ?_ | refine blk_drewN ?_ _ | refine blk_drew ?_)⟩⟩
                        case rest =>
                          clear HB BK
                          obtain ⟨rfl, HB, BK⟩ := hcut
                          cases r12 with
                          | true =>
                            go_wp2
                            go_ret
                            exact ⟨by rw [HRES2.out]; simp, HB.out⟩
                          | false =>
                            go_upto_region 14 with (fail)
                            go_cut [140] (fun v w' => v = .bool r14 ∧ Aside0 (Below w.heap.size w w') ∧ Aside0 (w'.heap[KB]? = some (.cells CE 50 (0, 0))))
                            case first =>
                             as_aux_lemma =>
                              have z_opens : wc.cell? ⟨KB, 10, none⟩ = some (.slice A10 x.opens.length c10) := (blk_cell BK.out 10).trans (by rw [HCE.out]; rfl)
                              have z_dones : wc.cell? ⟨KB, 11, none⟩ = some (.slice A11 x.dones.length c11) := (blk_cell BK.out 11).trans (by rw [HCE.out]; rfl)
                              have h_lo := H_lo.out
                              have g_lo : decide ((0 : Int) < ((x.opens.length : Nat) : Int)) = lo := by rw [← h_lo]; exact decide_eq_decide.2 (by omega)
                              have h_ld := H_ld.out
                              have g_ld : decide ((0 : Int) < ((x.dones.length : Nat) : Int)) = ld := by rw [← h_ld]; exact decide_eq_decide.2 (by omega)
                              cases c8v with
                              | true =>
                                go_wp2
                                go_meet
                                case rel => exact ⟨by first | rfl | (rw [E_r14.out]; simp; done) | (rw [E_r14.out]; rfl), ⟨by repeat (first | exact HB.out | refine below_step ?_ hb_.below | refine below_step ?_ hb_ | refine below_drew1 ?_ | refine pw_below_drewN ?_ _)⟩, ⟨by repeat (first | exact BK.out | refine (hb_.below.block KB (blk_lt BK.out)).trans ?_ | refine (hb_.block KB (blk_lt BK.out)).trans ?_ | refine blk_drewN ?_ _ | refine blk_drew ?_)⟩⟩
                              | false =>
                                cases lo with
                                | true =>
                                  go_wp2
                                  go_meet
                                  case rel => exact ⟨by first | rfl | (rw [E_r14.out]; simp; done) | (rw [E_r14.out]; rfl), ⟨by repeat (first | exact HB.out | refine below_step ?_ hb_.below | refine below_step ?_ hb_ | refine below_drew1 ?_ | refine pw_below_drewN ?_ _)⟩, ⟨by repeat (first | exact BK.out | refine (hb_.below.block KB (blk_lt BK.out)).trans ?_ | refine (hb_.block KB (blk_lt BK.out)).trans ?_ | refine blk_drewN ?_ _ | refine blk_drew ?_)⟩⟩
                                | false =>
                                  go_wp2
                                  go_meet
                                  case rel => exact ⟨by first | rfl | (rw [E_r14.out]; simp; done) | (rw [E_r14.out]; rfl), ⟨by repeat (first | exact HB.out | refine below_step ?_ hb_.below | refine below_step ?_ hb_ | refine below_drew1 ?_ | refine pw_below_drewN ?_ _)⟩, ⟨by repeat (first | exact BK.out | refine (hb_.below.block KB (blk_lt BK.out)).trans ?_ | refine (hb_.block KB (blk_lt BK.out)).trans ?_ | refine blk_drewN ?_ _ | refine blk_drew ?_)⟩⟩
                            case rest =>
                              clear HB BK
                              obtain ⟨rfl, HB, BK⟩ := hcut
                              cases r14 with
                              | true =>
                                go_wp2
                                go_ret
                                exact ⟨by rw [HRES2.out]; simp, HB.out⟩
                              | false =>
                                have z_pages : wc.cell? ⟨KB, 9, none⟩ = some (.slice A9 x.pages.length c9) := (blk_cell BK.out 9).trans (by rw [HCE.out]; rfl)
                                have z_opens : wc.cell? ⟨KB, 10, none⟩ = some (.slice A10 x.opens.length c10) := (blk_cell BK.out 10).trans (by rw [HCE.out]; rfl)
                                have z_dones : wc.cell? ⟨KB, 11, none⟩ = some (.slice A11 x.dones.length c11) := (blk_cell BK.out 11).trans (by rw [HCE.out]; rfl)
                                go_wp2_with fail
                                refine (rec_rightPages.calls 1 A9 c9 x.pages _ _ (Kd.C_below H9.out HB.out) L9.out HPB.out).mono ?_
                                rintro e_ wn_ ⟨rfl, hb_⟩
                                have BK2_ := (hb_.block KB (blk_lt BK.out)).trans BK.out
                                have HB2 := Aside0.mk (below_step HB.out hb_)
                                have y9_ : wn_.cell? ⟨KB, 9, none⟩ = some (.slice A9 x.pages.length c9) := (blk_cell BK2_ 9).trans (by rw [HCE.out]; rfl)
                                have y10_ : wn_.cell? ⟨KB, 10, none⟩ = some (.slice A10 x.opens.length c10) := (blk_cell BK2_ 10).trans (by rw [HCE.out]; rfl)
                                have y11_ : wn_.cell? ⟨KB, 11, none⟩ = some (.slice A11 x.dones.length c11) := (blk_cell BK2_ 11).trans (by rw [HCE.out]; rfl)
                                cases pb with
                                | false =>
                                  go_wp2
                                  go_ret
                                  exact ⟨by rw [HRES2.out]; rfl, HB2.out⟩
                                | true =>
                                  go_wp2_with fail
                                  refine (rec_rightTable.calls 1 A10 c10 x.opens A11 c11 x.dones _ _ (Kd.C_below H10.out HB2.out) L10.out (Kd.C_below H11.out HB2.out) L11.out HTB.out).mono ?_
                                  rintro e2_ wm_ ⟨rfl, hb3_⟩
                                  go_wp2
                                  go_ret
                                  exact ⟨by rw [HRES2.out]; rfl, below_step HB2.out hb3_⟩
end Go.Proofs.Ytopfaeefhicljaa.Q
