/- A view over which changes are laid tells these, the last one of each cell, and all else as it was; updates in it are the document's: whatever small world, changes and cell come in, FlowLays hands back true; no conditions. -/
import Derived.Test.YtjejobfhddlmeaaKept
import Derived.Test.YtjejobfhddlmeaaOpenCh
import Derived.Deep.RegionHeld3
namespace Go.Proofs.Ytjejobfhddlmeaa
open Go.RowKit
attribute [local go_sem] ext_ext drew_ext ext_drew ext_cell ext_frozen in_lt in_le in_ne in_en in_ne1 in_en1 in_le1 in_ltn in_len in_nen in_enn size_le ite_max ite_min
set_option linter.unusedVariables false
set_option linter.unusedSimpArgs false

namespace flowLays
open Go.ChangeShapes Go.WideShapes Go.ChangeAt

/-- A change, made near. -/
def mk (c : Ch) : Ch := (arS c.1 8 - 1, arS c.2.1 8 - 1, arS c.2.2.1 8 - 1, gdS c.2.2.2)
def mdL (cs : List Ch) (k : Nat) : List Ch := (cs.take k).map mk
theorem mdL_len (cs : List Ch) (k : Nat) (hk : k ≤ cs.length) : (mdL cs k).length = k := by unfold mdL; simp; omega
theorem mdL_snoc (cs : List Ch) (k : Nat) (hk : k < cs.length) : mdL cs (k + 1) = mdL cs k ++ [mk cs[k]] := by
  unfold mdL
  rw [List.take_succ_eq_append_getElem hk, List.map_append]
  rfl
theorem mdL_near (cs : List Ch) (k : Nat) : Near3 (mdL cs k) := by
  intro c hc
  obtain ⟨d, _, rfl⟩ := List.mem_map.1 hc
  exact ⟨near_mid.wid, near_mid.wid, near_mid.wid⟩
theorem mdL_wf (cs : List Ch) (k : Nat) : ∀ c ∈ mdL cs k, (Lit.int .i64 c.2.2.2).wf = true := by
  intro c hc
  obtain ⟨d, _, rfl⟩ := List.mem_map.1 hc
  have h := gd_bd d.2.2.2
  have hmin : IntKind.i64.min = -9223372036854775808 := rfl
  have hmax : IntKind.i64.max = 9223372036854775807 := rfl
  show (Lit.int .i64 (gdS d.2.2.2)).wf = true
  simp only [Lit.wf, Bool.and_eq_true, decide_eq_true_eq, hmin, hmax]
  omega

set_option maxRecDepth 100000 in
set_option maxHeartbeats 8000000 in
theorem walk (w : World) (sv : Value) (bs : List Int) (el : Int) (lv : Value) (cs : List Ch) (x y z : Int) (hs : IntsIn w sv bs) (fe : Fit el) (hl : ChIn w lv cs) (fx : Fit x) (fy : Fit y) (fz : Fit z) :
    Calls Try.prog 4 #[.agg #[sv, .int .i64 el], lv, .agg #[.int .i64 x, .int .i64 y, .int .i64 z]] w fun e w' => e = .returned (.bool true) ∧ ∃ f, w' = ext w f := by
  obtain ⟨i0, iz0, iz1, iz2, iz3⟩ := info_parts chInfo
  have HS := Lib.hid hs
  have HL := Lib.hid hl
  have HM := Lib.hid hl.small
  obtain ⟨ogl, capl, rfl⟩ := hl.form
  have GOOD := fun (w : World) (h : IntsIn w sv bs) => goodw_any sv bs el w h fe
  generalize (bs.take 216).map gdS = BS at GOOD
  have VIEW := fun (w : World) (sv : Value) => view_any BS sv (arS el 3 - 1) w
  have TELLS := fun (w : World) (sv lv : Value) (l : List Ch) (b1 : Nat) => tells_of BS sv lv l b1 (arS el 3 - 1) w
  clear hs hl
  generalize atS BS (arS el 3 - 1) = V at *
  have near := fun (w : World) => near18_any x y z w fx fy fz
  have mx := near_mid (x := x)
  have my := near_mid (x := y)
  have mz := near_mid (x := z)
  generalize arS x 8 - 1 = X at *
  generalize arS y 8 - 1 = Y at *
  generalize arS z 8 - 1 = Z at *
  have MX := Lib.hid mx
  have MY := Lib.hid my
  have MZ := Lib.hid mz
  clear mx my mz
  go_enter Try.func4, Try.ntmps4
  go_wp2_with fail
  refine (GOOD _ (HS.out.grown (by exact grown_of))).mono ?_
  rintro e w1 ⟨o1, rfl, hB1, _t, hw⟩
  have hc1 := named_cell hw
  have hz1 := named_frozen hw
  have hh1 := named_heap hw
  haveI hi1 := named_in hw
  haveI hb1 := named_below (w := w) hw
  clear hw
  obtain ⟨og1, cp1, rfl⟩ := owns_form hB1.1
  go_wp2_with fail
  have p0 : (w1.alloc (.cells #[.slice og1 BS.length cp1, .int .i64 (arS el 3 - 1)] 24)).cell? ⟨w1.heap.size, 0, none⟩ = some (.slice og1 BS.length cp1) := by go_simp
  have p1 : (w1.alloc (.cells #[.slice og1 BS.length cp1, .int .i64 (arS el 3 - 1)] 24)).cell? ⟨w1.heap.size, 1, none⟩ = some (.int .i64 (arS el 3 - 1)) := by go_simp
  obtain ⟨_, hw⟩ : ∃ f, w1.alloc (.cells #[.slice og1 BS.length cp1, .int .i64 (arS el 3 - 1)] 24) = ext w1 f := grown_of
  generalize w1.alloc (.cells #[.slice og1 BS.length cp1, .int .i64 (arS el 3 - 1)] 24) = w2 at *
  haveI := in_of_cell p0
  haveI hg2 := named_grown hw
  have hc2 := named_cell hw
  have hz2 := named_frozen hw
  have hh2 := named_heap hw
  haveI hi2 := named_in hw
  haveI hb2 := named_below (w := w) hw
  clear hw
  go_loopw [8, 9] (fun o i wr => ∃ k : Nat, k ≤ cs.length ∧ k ≤ 8 ∧ i = .int .i64 k ∧ wr.ownsRow w2.heap.size 36 4 o (mdL cs k).length (chV (mdL cs k)) ∧ ∃ f, wr = ext w2 f) (fun _ i _ => 8 - (intOf i).toNat)
  case atStart => exact ⟨0, by omega, by omega, rfl, World.ownsRow_nil .., grown_of⟩
  case round =>
    obtain ⟨k, hk, hk8, rfl, ow, _, hw⟩ := hrel
    rename World => w4
    haveI hg4 := named_grown hw
    haveI hb4_1 := named_below (w := w1) hw
    have hc4 := named_cell hw
    have hz4 := named_frozen hw
    have hh4 := named_heap hw
    haveI hi4 := named_in hw
    haveI hb4 := named_below (w := w) hw
    clear hw
    have OW := Lib.hid ow
    by_cases hgo : k < cs.length ∧ k < 8
    · clear ow
      obtain ⟨hlt, hlt8⟩ := hgo
      obtain ⟨g, fo, rfl, d0, d1, d2, d3⟩ := HL.out.at k hlt
      obtain ⟨fa, fb, fc, fd⟩ := HL.out.fit cs[k] (List.getElem_mem hlt)
      haveI := in_of_cell d0
      have HK := Lib.hid hlt
      have k1 : (k : Int) < (cs.length : Int) := by omega
      have k2 : (k : Int) < 8 := by omega
      have HN2 : Hid (mdL cs (k + 1) = mdL cs k ++ [(arS cs[k].1 8 - 1, arS cs[k].2.1 8 - 1, arS cs[k].2.2.1 8 - 1, gdS cs[k].2.2.2)]) := Lib.hid (mdL_snoc cs k hlt)
      have HLn := Lib.hid (mdL_len cs k hk)
      generalize cs[k].1 = a at *
      generalize cs[k].2.1 = b at *
      generalize cs[k].2.2.1 = c at *
      generalize cs[k].2.2.2 = e at *
      go_wp2_with fail
      refine wp_region_noPanic ?_
      refine wp_region_mix 8 [0] [1, 2, 3, 4, 5, 6, 7, 8, 9, 10, 11, 12, 13] [14, 15, 16] (by kernel_rfl) (by kernel_rfl) (by kernel_rfl) (fun _ _ _ _ _ h => h) ?_
      simp only [pick, List.getElem?_cons_zero, List.getElem?_cons_succ]
      repeat (refine wpPure_step (fun K hK => ?_); go_simp; refine hK _ ?_; clear hK K)
      refine wpPure_nil ?_
      repeat (go_big_quiet_step (first | (go_at_call 12; exact ext_call (near18_any _ _ _ _ fa fb fc)) | (go_at_call 17; exact ext_same (refgood_any _ _ fd))))
      refine wpQuiet_nil ?_
      rintro w6 ⟨_t, hw⟩
      haveI hb6_2 := named_below (w := w2) hw
      haveI hb6_4 := named_below (w := w4) hw
      haveI hb6_1 := named_below (w := w1) hw
      have hc6 := named_cell hw
      have hz6 := named_frozen hw
      have hh6 := named_heap hw
      haveI hi6 := named_in hw
      haveI hb6 := named_below (w := w) hw
      clear hw
      have OW6 := Lib.hid (owns_grown OW.out (grown_of (w := w4) (W := w6)))
      have HB6 := Lib.hid (grown_now (w := w2) (W := w6))
      go_wp2_with (at_builtin; refine wpList_append_own _ rfl (.tmp 25) (.tmp 39) 28 rfl w2.heap.size 36 i0 _ 4 32 Try.underlying28 iz0 iz1 iz2 iz3 rfl (by omega) _ _ _ rfl (OW6.out.alloc _) _ 1 1 [.int .i64 (arS a 8 - 1), .int .i64 (arS b 8 - 1), .int .i64 (arS c 8 - 1), .int .i64 (gdS e)] rfl rfl (World.news_of_block (heap_alloc_new w6 _)) (by simp [Value.oneCell']) (by have := HLn.out; unfold maxLen; omega) (by have := HLn.out; omega) (by have := HB6.out.size; simp; omega) ?_; intro v' w1' hown1 hgrow _)
      refine NoPanic.normal ?_
      go_wp2_with fail
      go_roundw
      case rel =>
        refine ⟨k + 1, HK.out, by omega, by go_num, ?_, ext_of ((HB6.out.alloc HB6.out.size _).grown hgrow (by have := HB6.out.size; simp; omega) (fun q hq => (OW6.out.lt q hq).1))⟩
        rw [HN2.out, List.length_append, chV_snoc]
        exact hown1
      case measure => simp [intOf]; omega
    · have NR := Lib.hid (mdL_near cs k)
      have WF := Lib.hid (mdL_wf cs k)
      have LN : Hid ((mdL cs k).length ≤ 8) := Lib.hid (by have := mdL_len cs k hk; omega)
      have hx : ¬ (k : Int) < (cs.length : Int) ∨ ((k : Int) < (cs.length : Int) ∧ ¬ (k : Int) < 8) := by omega
      generalize mdL cs k = l at *
      obtain ⟨og, cap, rfl⟩ := owns_form ow
      clear ow hgo hk
      rcases hx with hx | ⟨hx, hx8⟩
      all_goals
        go_wp2_with fail
        refine (VIEW _ _ (hB1.grown (by exact grown_of))).mono ?_
        rintro e w5 ⟨v5, rfl, hv5, _t, hw⟩
        haveI hb5_4 := named_below (w := w4) hw
        haveI hb5_2 := named_below (w := w2) hw
        haveI hb5_1 := named_below (w := w1) hw
        have hc5 := named_cell hw
        have hz5 := named_frozen hw
        have hh5 := named_heap hw
        haveI hi5 := named_in hw
        haveI hb5 := named_below (w := w) hw
        clear hw
        go_wp2_with fail
        refine (lay_any _ V l _ w2.heap.size _ NR.out WF.out (hv5.grow (by exact grown_of)) (by have := LN.out; omega) (owns_grown OW.out (by exact grown_of))).mono ?_
        rintro e w6 ⟨v6, rfl, hv6, _t, hw⟩
        haveI hb6_5 := named_below (w := w5) hw
        haveI hb6_4 := named_below (w := w4) hw
        haveI hb6_2 := named_below (w := w2) hw
        haveI hb6_1 := named_below (w := w1) hw
        have hc6 := named_cell hw
        have hz6 := named_frozen hw
        have hh6 := named_heap hw
        haveI hi6 := named_in hw
        haveI hb6 := named_below (w := w) hw
        clear hw
        have HV6 := Lib.hid hv6
        obtain ⟨f2, caps2, rfl, hvw⟩ := hv6
        have hne : ∀ W : World, (binOp .eql 31 (.func (.func f2) #[] caps2) .nilFunc).run Try.prog W = .ok (.bool false) W := fun W => func_nil f2 caps2 W
        have hvf := hvw.enters
        have HVW := Lib.hid hvw
        clear hvw
        go_wp2_with fail
        refine (near _).mono ?_
        rintro e w7 ⟨rfl, _t, hw⟩
        haveI hb7_6 := named_below (w := w6) hw
        haveI hb7_4 := named_below (w := w4) hw
        haveI hb7_2 := named_below (w := w2) hw
        haveI hb7_1 := named_below (w := w1) hw
        have hc7 := named_cell hw
        have hz7 := named_frozen hw
        have hh7 := named_heap hw
        haveI hi7 := named_in hw
        haveI hb7 := named_below (w := w) hw
        clear hw
        go_wp2_with fail
        have r0 : (w7.alloc (.cells #[.int .i64 X, .int .i64 Y, .int .i64 Z] 26)).cell? ⟨w7.heap.size, 0, none⟩ = some (.int .i64 X) := by go_simp
        have r1 : (w7.alloc (.cells #[.int .i64 X, .int .i64 Y, .int .i64 Z] 26)).cell? ⟨w7.heap.size, 1, none⟩ = some (.int .i64 Y) := by go_simp
        have r2 : (w7.alloc (.cells #[.int .i64 X, .int .i64 Y, .int .i64 Z] 26)).cell? ⟨w7.heap.size, 2, none⟩ = some (.int .i64 Z) := by go_simp
        obtain ⟨_, hw⟩ : ∃ f, w7.alloc (.cells #[.int .i64 X, .int .i64 Y, .int .i64 Z] 26) = ext w7 f := grown_of
        generalize w7.alloc (.cells #[.int .i64 X, .int .i64 Y, .int .i64 Z] 26) = w16 at *
        haveI := in_of_cell r0
        haveI hg16 := named_grown hw
        haveI hb16_6 := named_below (w := w6) hw
        haveI hb16_4 := named_below (w := w4) hw
        haveI hb16_1 := named_below (w := w1) hw
        have hc16 := named_cell hw
        have hz16 := named_frozen hw
        have hh16 := named_heap hw
        haveI hi16 := named_in hw
        haveI hb16 := named_below (w := w) hw
        clear hw
        have TL := Lib.hid (TELLS w16 _ (.slice og l.length cap) l w2.heap.size (hB1.grown (by exact grown_of)) (owns_grown OW.out (by exact grown_of)) (by have := LN.out; omega))
        have OW7 := Lib.hid (owns_grown OW.out (grown_of (w := w4) (W := w16)))
        go_loopw [12] (fun i wr => ∃ j : Nat, j ≤ l.length ∧ i = .int .i64 j ∧ ∃ f, wr = ext w16 f) (fun i _ => l.length - (intOf i).toNat)
        case atStart => exact ⟨0, by omega, rfl, grown_of⟩
        case round =>
          obtain ⟨j, hj, rfl, _, hw⟩ := hrel
          rename World => w8
          haveI hg8 := named_grown hw
          haveI hb8_6 := named_below (w := w6) hw
          haveI hb8_1 := named_below (w := w1) hw
          have hc8 := named_cell hw
          have hz8 := named_frozen hw
          have hh8 := named_heap hw
          haveI hi8 := named_in hw
          haveI hb8 := named_below (w := w) hw
          clear hw
          by_cases hlt : j < l.length
          · obtain ⟨g, rfl, hc⟩ := row_cells (owns_grown OW7.out (grown_of (w := w16) (W := w8))) (by omega)
            obtain ⟨t0, t1, t2, t3⟩ := chV_at l j hlt
            have d0 := hc _ _ t0
            have d1 := hc _ _ t1
            have d2 := hc _ _ t2
            obtain ⟨m1, m2, m3⟩ := NR.out l[j] (List.getElem_mem hlt)
            haveI := in_of_cell d0
            have HK := Lib.hid hlt
            have j1 : (j : Int) < 9 := by have := LN.out; omega
            have j2 : (j : Int) < (l.length : Int) := by omega
            clear hc t0 t1 t2 t3
            generalize l[j].1 = a at *
            generalize l[j].2.1 = b at *
            generalize l[j].2.2.1 = c at *
            go_wp2_with fail
            refine wp_region_ext ?_ ?_ ?_
            · kernel_rfl
            · kernel_rfl
            repeat (go_big_quiet_step (first | (go_at_call 19; exact ext_call (TL.out _ (by exact grown_of) _ _ _)) | (with_reducible exact ext_call (HVW.out.tells _ (by exact grown_of) _ _ _ m1 m2 m3))))
            refine wpQuiet_nil ?_
            rintro w9 ⟨_t, hw⟩
            haveI hg9 := named_grown hw
            have hc9 := named_cell hw
            have hz9 := named_frozen hw
            have hh9 := named_heap hw
            haveI hi9 := named_in hw
            haveI hb9 := named_below (w := w) hw
            clear hw
            haveI hb9_7 := below_thru w16 w8 w9
            go_wp2_with fail
            go_roundw
            case rel => exact ⟨j + 1, HK.out, by go_num, grown_of⟩
            case measure => have := HK.out; simp [intOf]; omega
          · have j2 : ¬ (j : Int) < (l.length : Int) := by omega
            go_wp2_with fail
            have q0 : w8.cell? ⟨w1.heap.size, 0, none⟩ = some (.slice og1 BS.length cp1) := by go_simp
            have q1 : w8.cell? ⟨w1.heap.size, 1, none⟩ = some (.int .i64 (arS el 3 - 1)) := by go_simp
            have q2 : w8.cell? ⟨w7.heap.size, 0, none⟩ = some (.int .i64 X) := by go_simp
            have q3 : w8.cell? ⟨w7.heap.size, 1, none⟩ = some (.int .i64 Y) := by go_simp
            have q4 : w8.cell? ⟨w7.heap.size, 2, none⟩ = some (.int .i64 Z) := by go_simp
            haveI := in_of_cell q0
            haveI := in_of_cell q2
            clear hc1 hz1 hh1 hi1 hc2 hz2 hh2 hi2 hc4 hz4 hh4 hi4 hc5 hz5 hh5 hi5 hc6 hz6 hh6 hi6 hc7 hz7 hh7 hi7 hc8 hz8 hh8 hi8 hc16 hz16 hh16 hi16 p0 p1 r0 r1 r2
            go_region_held3 (fun w' => w'.cell? ⟨w1.heap.size, 0, none⟩ = some (.slice og1 BS.length cp1) ∧ w'.cell? ⟨w1.heap.size, 1, none⟩ = some (.int .i64 (arS el 3 - 1)) ∧ w'.cell? ⟨w7.heap.size, 0, none⟩ = some (.int .i64 X) ∧ w'.cell? ⟨w7.heap.size, 1, none⟩ = some (.int .i64 Y) ∧ w'.cell? ⟨w7.heap.size, 2, none⟩ = some (.int .i64 Z))
              (((try dsimp only); refine ⟨?_, ?_, ?_, ?_, ?_⟩ <;> go_simp))
              (first
                | (go_at_call 19; refine (TL.out _ (by exact grown_of) _ _ _).mono ?_; rintro e w10 ⟨rfl, _t, hw⟩; (try haveI hb10_16 := named_below (w := w16) hw); (try haveI hb10_6 := named_below (w := w6) hw); have hc10 := named_cell hw; have hz10 := named_frozen hw; have hh10 := named_heap hw; haveI hi10 := named_in hw; haveI hb10 := named_below (w := w) hw; clear hw)
                | (go_at_call 10; refine (next_any _ (layS V l) X Y Z _ (HV6.out.grow (by exact grown_of)) MX.out MY.out MZ.out).mono ?_; rintro e w11 ⟨v11, rfl, ho11, _t, hw⟩; (try haveI hb11_12 := named_below (w := w12) hw); (try haveI hb11_16 := named_below (w := w16) hw); (try haveI hb11_6 := named_below (w := w6) hw); have hc11 := named_cell hw; have hz11 := named_frozen hw; have hh11 := named_heap hw; haveI hi11 := named_in hw; haveI hb11 := named_below (w := w) hw; clear hw)
                | (go_at_call 21; refine (refnext_any _ _ _ (layS V l) X Y Z _ (TL.out.grow (by exact grown_of)) MX.out MY.out MZ.out).mono ?_; rintro e w12 ⟨v12, rfl, ho12, _t, hw⟩; (try haveI hb12_11 := named_below (w := w11) hw); (try haveI hb12_16 := named_below (w := w16) hw); (try haveI hb12_6 := named_below (w := w6) hw); have hc12 := named_cell hw; have hz12 := named_frozen hw; have hh12 := named_heap hw; haveI hi12 := named_in hw; haveI hb12 := named_below (w := w) hw; clear hw)
                | (go_at_call 20; refine (same_next (layS V l) X Y Z _ _ _ _ _ (owns_grown ho11 (by exact grown_of)) (owns_grown ho12 (by exact grown_of))).mono ?_; rintro e w13 ⟨rfl, _t, hw⟩; (try haveI hb13_16 := named_below (w := w16) hw); have hc13 := named_cell hw; have hz13 := named_frozen hw; have hh13 := named_heap hw; haveI hi13 := named_in hw; haveI hb13 := named_below (w := w) hw; clear hw)
                | (go_at_call 16; refine (lives_any _).mono ?_; rintro e w14 ⟨rfl, _t, hw⟩; (try haveI hb14_16 := named_below (w := w16) hw); have hc14 := named_cell hw; have hz14 := named_frozen hw; have hh14 := named_heap hw; haveI hi14 := named_in hw; haveI hb14 := named_below (w := w) hw; clear hw)
                | (refine (HVW.out.tells _ (by exact grown_of) _ _ _ MX.out.wid MY.out.wid MZ.out.wid).mono ?_; rintro e w15 ⟨rfl, _t, hw⟩; (try haveI hb15_16 := named_below (w := w16) hw); (try haveI hb15_6 := named_below (w := w6) hw); have hc15 := named_cell hw; have hz15 := named_frozen hw; have hh15 := named_heap hw; haveI hi15 := named_in hw; haveI hb15 := named_below (w := w) hw; clear hw))
            all_goals (go_wp2_with fail; go_ret; exact ⟨rfl, grown_of⟩)
set_option maxRecDepth 100000 in
theorem lifted (os : Os) (started : os.Started) (H : Type) (enc : TypeId × Value → H) :
    ReturnsInHanded {} Try.checked os 4 .any (Rows.flowLaysSpec.pre6 enc Try.prog Try.f4 Rows.flowLaysRow.domain false) (Rows.flowLaysSpec.post enc Try.prog Try.f4 false true false false) := by
  refine returnsInHanded_of_change (C := Try.checked) own started (by kernel_rfl) Try.func4
    (ChangeSpec.witness6 (enc := enc) (C := Try.checked) false ⟨#[], #[.agg #[.slice none 0 0, .int .i64 0], .slice none 0 0, .agg #[.int .i64 0, .int .i64 0, .int .i64 0]], []⟩ 8 (by kernel_rfl) (by kernel_rfl) (by kernel_rfl) (by kernel_rfl)) ?_
  intro W base args ds gs before hval0 hW hcnd hsz
  have hval : ∀ (j : Nat) t v, Try.f4.params[j]? = some t → args[j]? = some v → Value.okWide Try.prog W .any base t v := hval0
  have hW' := hW
  obtain ⟨p, q, hA0, hV, rfl, hfz, hnd⟩ := hW
  have hA : DataW.TrodAll enc Try.prog W 0 (fun _ => true) true Try.f4.params.toList args.toList ds p := hA0
  rw [Try.params4] at hA hval
  obtain ⟨v0, vs0, d0, ds0, p0, q0, hargs, rfl, rfl, h0, r0⟩ := trodAll_cons hA
  obtain ⟨v1, vs1, d1, ds1, p1, q1, rfl, rfl, rfl, h1, r1⟩ := trodAll_cons r0
  obtain ⟨v2, vs2, d2, ds2, p2, q2, rfl, rfl, rfl, h2, r2⟩ := trodAll_cons r1
  obtain ⟨rfl, rfl, rfl⟩ := trodAll_nil r2
  obtain rfl : args = #[v0, v1, v2] := by cases args; simp_all
  obtain ⟨rfl, rfl⟩ := trodVars_none hV
  obtain ⟨s0, bs0, el0, rfl, hs0, fe0⟩ := open_world Try.underlying3 Try.underlying22 Try.underlying24 (by kernel_rfl) (by kernel_rfl) (by kernel_rfl) (by kernel_rfl) rfl rfl (hval 0 24 v0 rfl rfl) h0
  obtain ⟨cs1, hs1⟩ := open_changes Try.underlying3 Try.underlying28 Try.underlying36 Try.underlying26 (by kernel_rfl) (by kernel_rfl) (by kernel_rfl) (by kernel_rfl) rfl rfl rfl rfl rfl rfl rfl (hval 1 28 v1 rfl rfl) h1
  obtain ⟨a2, b2, c2, rfl, fa2, fb2, fc2⟩ := open_three Try.underlying3 Try.underlying26 (by kernel_rfl) (by kernel_rfl) rfl rfl rfl (hval 2 26 v2 rfl rfl) h2
  simp only [List.append_nil] at hW'
  refine (walk W s0 bs0 el0 v1 cs1 a2 b2 c2 hs0 fe0 hs1 fa2 fb2 fc2).mono fun e W' ⟨he, g, hg⟩ => ?_
  subst he
  subst hg
  exact ⟨_, rfl, law_post laidOut rfl rfl (by kernel_rfl) Try.underlying4 (by rw [Try.params4]; decide +kernel) hW' (ext_below _ _)⟩

theorem over : Rows.flowLaysRow.holds Try.pinned (OpenSpec.ofChange Rows.flowLaysSpec) :=
  OpenClaim.holds_of_wide 4 Try.f4 rfl rfl rfl rfl rfl rfl rfl ⟨rfl, rfl, rfl, rfl, rfl⟩ rfl rfl rfl rfl rfl (by kernel_rfl) Try.func4 (by kernel_rfl)
    (of_decide_eq_true (by kernel_rfl)) (by unfold Func.isWrapper; first | (rw [if_pos (by decide +kernel)]; kernel_rfl) | (rw [if_neg (by decide +kernel)]; exact ⟨rfl, rfl⟩))
    (fun os started H enc _ => lifted os started H enc)

theorem proved : Rows.FlowLaysSaid := over
#print axioms proved
end flowLays
end Go.Proofs.Ytjejobfhddlmeaa
