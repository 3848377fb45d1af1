import Derived.Test.YtppbkblnjlbnfaaGreatDoorC18
/-! Contract: show.Door. -/
set_option linter.unusedVariables false
namespace Go.Proofs.YtppbkblnjlbnfaaGreatDoor
open Go.RowKit
theorem fourShow_len (n : Int) : (PM.fourShow n).length ≤ 100 := by
  unfold PM.fourShow
  split
  · simp
  · have := joinBy_len [46] 20 (PM.fourList n.toNat) (fun l hl => by
      have : ∀ x, (PM.digs x).length ≤ 20 := fun x => by unfold PM.digs PM.rdig; rw [List.length_reverse]; exact rdigF_len _ _
      simp only [PM.fourList, List.mem_cons, List.not_mem_nil, or_false] at hl
      rcases hl with rfl | rfl | rfl | rfl <;> exact this _)
    simp [PM.fourList] at this ⊢
    omega
theorem hostShow_len (h : PM.Host) (h1 : h.name.length ≤ 1000000) (h2 : h.six.length = 8) : (PM.hostShow h).length ≤ 2000000 := by
  unfold PM.hostShow
  split
  · split
    · omega
    · split
      · exact Nat.le_trans (fourShow_len _) (by decide)
      · have := sixShow_len h.six h2
        simp; omega
  · simp
set_option maxRecDepth 100000 in
set_option maxHeartbeats 4000000 in
theorem Door_c (u : UV) (w : World) (hu : u.Ok w) (hg : Gl w) : Calls Tryz.prog 66 #[.agg u.cells] w fun e w' => e = .returned (.string (mkS (PM.door u.pm))) ∧ Below w.heap.size w w' := by
  have hM := urlMay_c u
  unfold UV.cells at hM ⊢
  have HA : Hid (UrlAt (w.alloc (.cells #[.string (mkS u.sc), .string (mkS u.us), .string (mkS u.pa), .int .i64 u.k, .string (mkS u.n), .int .i64 u.m, .int .i64 u.s0, .int .i64 u.s1, .int .i64 u.s2, .int .i64 u.s3, .int .i64 u.s4, .int .i64 u.s5, .int .i64 u.s6, .int .i64 u.s7, .int .i64 u.port, .slice u.a u.pn u.pc, .string (mkS u.op), .string (mkS u.qu), .string (mkS u.fr), .bool u.hq, .bool u.hf] 27)) w.heap.size u) := Lib.hid (UrlAt.new w u)
  have HB : Hid (Below w.heap.size w (w.alloc (.cells #[.string (mkS u.sc), .string (mkS u.us), .string (mkS u.pa), .int .i64 u.k, .string (mkS u.n), .int .i64 u.m, .int .i64 u.s0, .int .i64 u.s1, .int .i64 u.s2, .int .i64 u.s3, .int .i64 u.s4, .int .i64 u.s5, .int .i64 u.s6, .int .i64 u.s7, .int .i64 u.port, .slice u.a u.pn u.pc, .string (mkS u.op), .string (mkS u.qu), .string (mkS u.fr), .bool u.hq, .bool u.hf] 27))) := Lib.hid (by (repeat (first | exact Below.refl _ _ | apply b_alloc | apply b_drew | apply b_drewN | assumption | (refine b_then ?_ (by assumption)))))
  have hH : (w.alloc (.cells #[.string (mkS u.sc), .string (mkS u.us), .string (mkS u.pa), .int .i64 u.k, .string (mkS u.n), .int .i64 u.m, .int .i64 u.s0, .int .i64 u.s1, .int .i64 u.s2, .int .i64 u.s3, .int .i64 u.s4, .int .i64 u.s5, .int .i64 u.s6, .int .i64 u.s7, .int .i64 u.port, .slice u.a u.pn u.pc, .string (mkS u.op), .string (mkS u.qu), .string (mkS u.fr), .bool u.hq, .bool u.hf] 27)).heap[w.heap.size]? = some (.cells #[.string (mkS u.sc), .string (mkS u.us), .string (mkS u.pa), .int .i64 u.k, .string (mkS u.n), .int .i64 u.m, .int .i64 u.s0, .int .i64 u.s1, .int .i64 u.s2, .int .i64 u.s3, .int .i64 u.s4, .int .i64 u.s5, .int .i64 u.s6, .int .i64 u.s7, .int .i64 u.port, .slice u.a u.pn u.pc, .string (mkS u.op), .string (mkS u.qu), .string (mkS u.fr), .bool u.hq, .bool u.hf] 27) := heap_alloc_new _ _
  have HH := Lib.hid hH
  clear hH
  have HU := Lib.hid hu
  have HG := Lib.hid hg
  have HM := Lib.hid hM
  clear hu hg hM
  have hd : PM.door u.pm = (if !PM.urlMay u.pm || decide (PM.web u.sc = 0) then [] else if u.port = -1 then PM.hostShow u.host else PM.hostShow u.host ++ 58 :: PM.digs u.port.toNat) := rfl
  have HD := Lib.hid hd
  have hpt := PM.may_port u.pm
  have HP : Hid (PM.urlMay u.pm = true → PM.web u.sc ≠ 0 → -1 ≤ u.port ∧ u.port ≤ 65535) := Lib.hid hpt
  clear hd hpt
  go_enter Tryz.func66, Tryz.ntmps66
  go_upto_region 1 with fail
  generalize w.alloc (.cells #[.string (mkS u.sc), .string (mkS u.us), .string (mkS u.pa), .int .i64 u.k, .string (mkS u.n), .int .i64 u.m, .int .i64 u.s0, .int .i64 u.s1, .int .i64 u.s2, .int .i64 u.s3, .int .i64 u.s4, .int .i64 u.s5, .int .i64 u.s6, .int .i64 u.s7, .int .i64 u.port, .slice u.a u.pn u.pc, .string (mkS u.op), .string (mkS u.qu), .string (mkS u.fr), .bool u.hq, .bool u.hf] 27) = V0 at HA HB HH ⊢
  obtain ⟨c0, c1, c2, c3, c4, c5, c6, c7, c8, c9, c10, c11, c12, c13, c14, c15, c16, c17, c18, c19, c20⟩ := HA.out
  go_wp2_with (refine wpList_load_row rfl 27 _ rfl w.heap.size rfl 27 _ (0, 0) _ HH.out Tryz.underlying27 rfl (by kernel_rfl) ?_)
  refine (HM.out _ (HU.out.below HB.out) (HG.out.below HB.out)).mono ?_
  cases hm : PM.urlMay u.pm
  · rintro e V1 ⟨rfl, hb1⟩
    go_wp2
    go_ret
    exact ⟨ret_str (by rw [HD.out, hm]; rfl), b_then HB.out hb1⟩
  · have H1 := Lib.hid hm
    clear hm
    rintro e V1 ⟨rfl, hb1⟩
    replace HA := Lib.hid (HA.out.below hb1); replace HB := Lib.hid (b_then HB.out hb1); clear c0 c1 c2 c3 c4 c5 c6 c7 c8 c9 c10 c11 c12 c13 c14 c15 c16 c17 c18 c19 c20; obtain ⟨c0, c1, c2, c3, c4, c5, c6, c7, c8, c9, c10, c11, c12, c13, c14, c15, c16, c17, c18, c19, c20⟩ := HA.out
    go_wp2_with fail
    refine (Web_c u.sc _).mono ?_
    rintro e V2 ⟨rfl, rfl⟩
    by_cases hw : PM.web u.sc = 0
    · have hw' : (PM.web u.sc == 0) = true := by simpa using hw
      have H2 := Lib.hid hw
      clear hw
      go_wp2
      go_ret
      exact ⟨ret_str (by rw [HD.out, H1.out, decide_eq_true H2.out]; rfl), HB.out⟩
    · have hw' : (PM.web u.sc == 0) = false := by simpa using hw
      have H2 := Lib.hid hw
      clear hw
      obtain ⟨hp1, hp2⟩ := HP.out H1.out H2.out
      have hsl : (PM.hostShow ⟨u.k, u.n, u.m, [u.s0, u.s1, u.s2, u.s3, u.s4, u.s5, u.s6, u.s7]⟩).length ≤ 2000000 := hostShow_len u.host HU.out.n rfl
      by_cases hp : u.port = -1
      · have hp' : (u.port == -1) = true := by simpa using hp
        have H3 := Lib.hid hp
        clear hp
        go_wp2_with fail
        refine (hostShow_c u.k u.n u.m u.s0 u.s1 u.s2 u.s3 u.s4 u.s5 u.s6 u.s7 HU.out.n _ (HG.out.below HB.out)).mono ?_
        rintro e V3 ⟨rfl, hb3⟩
        go_wp2
        go_ret
        exact ⟨ret_str (by rw [HD.out, H1.out, decide_eq_false H2.out, if_neg (by simp), if_pos H3.out]; rfl), b_then HB.out hb3⟩
      · have hp' : (u.port == -1) = false := by simpa using hp
        have H3 := Lib.hid hp
        obtain ⟨m, hpm⟩ : ∃ m : Nat, u.port = (m : Int) := ⟨u.port.toNat, by omega⟩
        have hdl : (PM.digs m).length ≤ 20 := by unfold PM.digs PM.rdig; rw [List.length_reverse]; exact rdigF_len _ _
        have hm1 : m ≤ 1000000000000 := by omega
        have DS := deciShow_c m hm1
        have H4 := Lib.hid hpm
        rw [← hpm] at DS
        clear hp hpm hm1 hp1 hp2
        have HA1 : Hid (UrlAt V2.drew w.heap.size u) := HA
        have HB1 : Hid (Below w.heap.size w V2.drew) := Lib.hid (b_drew HB.out)
        go_wp2
        go_region_with (first
          | (go_at_call 92; refine (hostShow_c u.k u.n u.m u.s0 u.s1 u.s2 u.s3 u.s4 u.s5 u.s6 u.s7 HU.out.n _ (HG.out.below HB1.out)).mono ?_; rintro e V' ⟨rfl, hb'⟩; replace HA1 := Lib.hid (HA1.out.below hb'); replace HB1 := Lib.hid (b_then HB1.out hb'); obtain ⟨c0, c1, c2, c3, c4, c5, c6, c7, c8, c9, c10, c11, c12, c13, c14, c15, c16, c17, c18, c19, c20⟩ := HA1.out)
          | (go_at_call 93; refine (DS _).mono ?_; rintro e V' ⟨rfl, hb'⟩; replace HA1 := Lib.hid (HA1.out.below hb'); replace HB1 := Lib.hid (b_then HB1.out hb'); obtain ⟨c0, c1, c2, c3, c4, c5, c6, c7, c8, c9, c10, c11, c12, c13, c14, c15, c16, c17, c18, c19, c20⟩ := HA1.out))
        all_goals go_wp2
        all_goals go_ret
        all_goals refine ⟨?_, HB1.out⟩
        all_goals rw [HD.out, H1.out, decide_eq_false H2.out, if_neg (by simp), if_neg H3.out, H4.out]
        all_goals show Ending.returned (.string (mkS (PM.hostShow u.host) ++ mkS [58] ++ mkS (PM.digs m))) = _
        all_goals rw [mkS_append, mkS_append]
        all_goals exact ret_str (by simp)
end Go.Proofs.YtppbkblnjlbnfaaGreatDoor
