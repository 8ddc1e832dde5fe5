/- What functions of the program, and of the library, answer. Conditions: none. -/
import Derived.Test.YtgckcnggblomgaaDoorLaw5
set_option linter.unusedVariables false
set_option linter.unusedSimpArgs false
set_option linter.defProp false
/- RulesAllows: true. -/
namespace Go.Ab
set_option linter.unusedSimpArgs false
set_option maxHeartbeats 1000000
set_option maxRecDepth 100000
theorem u64_range (x : Int) : 0 ≤ IntKind.wrap .u64 x ∧ IntKind.wrap .u64 x < 18446744073709551616 := by
  simp [IntKind.wrap, IntKind.bits, IntKind.signed]; omega
theorem roomNum (x : Int) : ∃ r : Nat, r < 8 ∧ (IntKind.wrap .u64 x).tmod 8 = (r : Int) := by
  obtain ⟨h1, h2⟩ := u64_range x
  refine ⟨((IntKind.wrap .u64 x) % 8).toNat, by omega, ?_⟩
  rw [Int.tmod_eq_emod_of_nonneg h1]; omega
theorem otherNum (x : Int) : ∃ q : Nat, q < 4 ∧ IntKind.wrap .i64 ((IntKind.wrap .u64 ((IntKind.wrap .u64 x).tdiv 2)).tmod 4) = (q : Int) := by
  obtain ⟨h1, h2⟩ := u64_range ((IntKind.wrap .u64 x).tdiv 2)
  refine ⟨((IntKind.wrap .u64 ((IntKind.wrap .u64 x).tdiv 2)) % 4).toNat, by omega, ?_⟩
  rw [Int.tmod_eq_emod_of_nonneg h1]
  have : 0 ≤ (IntKind.wrap .u64 ((IntKind.wrap .u64 x).tdiv 2)) % 4 ∧ (IntKind.wrap .u64 ((IntKind.wrap .u64 x).tdiv 2)) % 4 < 4 := by omega
  generalize (IntKind.wrap .u64 ((IntKind.wrap .u64 x).tdiv 2)) % 4 = y at this
  simp [IntKind.wrap, IntKind.bits, IntKind.signed]; omega
theorem u8small {n : Nat} (h : n < 256) : IntKind.wrap .u8 (n : Int) = (n : Int) := by
  simp [IntKind.wrap, IntKind.bits, IntKind.signed]; omega
/-- What has been made so far. -/
structure Made (lst : List V) (wl : List Bs) (n : Nat) : Prop where
  fine : ∀ e ∈ lst, e.fine = true
  dep : ∀ e ∈ lst, e.dep ≤ 1
  sz : ∀ e ∈ lst, e.sz ≤ 100
  len : lst.length ≤ n
  want : allowsL [] lst = wl
theorem szL_le : ∀ {l : List V}, (∀ e ∈ l, e.sz ≤ 100) → szL l ≤ 100 * l.length
  | [], _ => by simp [szL]
  | v :: r, h => by
    have := h v (by simp)
    have := szL_le (fun e he => h e (by simp [he]) : ∀ e ∈ r, e.sz ≤ 100)
    simp only [szL, List.length_cons]; omega
theorem hasS_drop {l : List Bs} {x : Bs} : hasS l x = l.any (fun s => s == x) := by
  unfold hasS
  congr 1
  funext s
  exact Bool.beq_comm

/-- The loop that looks for a room among those told. -/
theorem seen_loop {k : List Item} {Q : Fr → Store → Prop} {σ : Store} {R O u v2 : AV} {j : Int} {room : Bs} {wl : List Bs} (g2 : Gr LStr σ v2 wl) (hb : wl.length < 64)
    (h : ∀ fr' : Fr, (look fr' 0).getD .undef = R → (look fr' 1).getD .undef = O → (look fr' 5).getD .undef = u → (look fr' 6).getD .undef = v2 → (look fr' 7).getD .undef = .int .i64 j → (look fr' 8).getD .undef = .str room → (look fr' 9).getD .undef = .bool (hasS wl room) → Ex ipU gU k fr' σ Q) :
    Ex ipU gU (.code F16_39 :: .inLoop [0, 1, 5, 6, 7, 8, 9, 10] F16_39 :: .inBlock 2 :: k) [(0, R), (1, O), (5, u), (6, v2), (7, .int .i64 j), (8, .str room), (9, .bool false), (10, .int .i64 0)] σ Q := by
  refine ex_while (S := Nat × Bool) (fun p => [(0, R), (1, O), (5, u), (6, v2), (7, .int .i64 j), (8, .str room), (9, .bool p.2), (10, .int .i64 (p.1 : Int))]) (fun _ => σ) (fun p => wl.length - p.1) (fun p => (p.2 || (wl.drop p.1).any fun s => s == room) = hasS wl room) ?_ (0, false) (by simp [hasS_drop])
  rintro b ⟨i, seen⟩ hi ih
  simp only at hi ih ⊢
  have hlen := g2.lenL
  by_cases hlt : i < wl.length
  · have hcond := dlt hlt
    obtain ⟨s, hs⟩ := get_lt hlt
    obtain ⟨p, p1, p2⟩ := g2.idxS hs
    have hw := wsucc hlt (by omega)
    rw [drop_cons hs, List.any_cons] at hi
    cases seen
    · simp only [F16_0, F16_1, F16_2, F16_3, F16_4, F16_5, F16_6, F16_7, F16_8, F16_9, F16_10, F16_11, F16_12, F16_13, F16_14, F16_15, F16_16, F16_17, F16_18, F16_19, F16_20, F16_21, F16_22, F16_23, F16_24, F16_25, F16_26, F16_27, F16_28, F16_29, F16_30, F16_31, F16_32, F16_33, F16_34, F16_35, F16_36, F16_37, F16_38, F16_39, F16_40, F16_41, F16_42, F16_43, F16_44, F16_45, F16_46, F16_47, F16_48, F16_49, F16_50, F16_51, F16_52, F16_53, F16_54, F16_55, F16_56, F16_57, F16_58, F16_59, F16_60, F16_61, F16_62, F16_63, F16_64, F16_65, F16_66, F16_67, F16_68, F16_69, F16_70, F16_71, F16_72, F16_73, F16_74, F16_75, F16_76, F16_77, F16_78, F16_79, F16_80, F16_81, F16_82, F16_83, F16_84, F16_85, F16, EX0, EX1, EX2, EX3, EX4, EX5, if_true, if_false, implies_true, forall_const, ne_eq, Nat.reduceEqDiff, reduceIte, reduceCtorEq, Nat.reduceAdd, Nat.reduceLeDiff, Nat.reduceSub, Nat.reduceMul, Int.reduceEq, Int.reduceBEq, Int.reduceBNe, Int.reduceLT, Int.reduceLE, Nat.reduceLT, hlen, hcond, p1, p2, hw]
      exact ih (i + 1, s == room) _ _ (by simp; omega) (by simpa [Bool.or_assoc] using hi) (by simp only [EX0, EX1, EX2, EX3, EX4, EX5, if_true, if_false, implies_true, forall_const, ne_eq, Nat.reduceEqDiff, reduceIte, reduceCtorEq, Nat.reduceAdd, Nat.reduceLeDiff, Nat.reduceSub, Nat.reduceMul, Int.reduceEq, Int.reduceBEq, Int.reduceBNe, Int.reduceLT, Int.reduceLE, Nat.reduceLT]) rfl
    · simp only [F16_0, F16_1, F16_2, F16_3, F16_4, F16_5, F16_6, F16_7, F16_8, F16_9, F16_10, F16_11, F16_12, F16_13, F16_14, F16_15, F16_16, F16_17, F16_18, F16_19, F16_20, F16_21, F16_22, F16_23, F16_24, F16_25, F16_26, F16_27, F16_28, F16_29, F16_30, F16_31, F16_32, F16_33, F16_34, F16_35, F16_36, F16_37, F16_38, F16_39, F16_40, F16_41, F16_42, F16_43, F16_44, F16_45, F16_46, F16_47, F16_48, F16_49, F16_50, F16_51, F16_52, F16_53, F16_54, F16_55, F16_56, F16_57, F16_58, F16_59, F16_60, F16_61, F16_62, F16_63, F16_64, F16_65, F16_66, F16_67, F16_68, F16_69, F16_70, F16_71, F16_72, F16_73, F16_74, F16_75, F16_76, F16_77, F16_78, F16_79, F16_80, F16_81, F16_82, F16_83, F16_84, F16_85, F16, EX0, EX1, EX2, EX3, EX4, EX5, if_true, if_false, implies_true, forall_const, ne_eq, Nat.reduceEqDiff, reduceIte, reduceCtorEq, Nat.reduceAdd, Nat.reduceLeDiff, Nat.reduceSub, Nat.reduceMul, Int.reduceEq, Int.reduceBEq, Int.reduceBNe, Int.reduceLT, Int.reduceLE, Nat.reduceLT, hlen, hcond, p1, p2, hw]
      exact ih (i + 1, true) _ _ (by simp; omega) (by simpa using hi) (by simp only [EX0, EX1, EX2, EX3, EX4, EX5, if_true, if_false, implies_true, forall_const, ne_eq, Nat.reduceEqDiff, reduceIte, reduceCtorEq, Nat.reduceAdd, Nat.reduceLeDiff, Nat.reduceSub, Nat.reduceMul, Int.reduceEq, Int.reduceBEq, Int.reduceBNe, Int.reduceLT, Int.reduceLE, Nat.reduceLT]) rfl
  · have hcond := dge (Nat.not_lt.1 hlt)
    rw [List.drop_eq_nil_of_le (by omega)] at hi
    simp only [List.any_nil, Bool.or_false] at hi
    simp only [F16_0, F16_1, F16_2, F16_3, F16_4, F16_5, F16_6, F16_7, F16_8, F16_9, F16_10, F16_11, F16_12, F16_13, F16_14, F16_15, F16_16, F16_17, F16_18, F16_19, F16_20, F16_21, F16_22, F16_23, F16_24, F16_25, F16_26, F16_27, F16_28, F16_29, F16_30, F16_31, F16_32, F16_33, F16_34, F16_35, F16_36, F16_37, F16_38, F16_39, F16_40, F16_41, F16_42, F16_43, F16_44, F16_45, F16_46, F16_47, F16_48, F16_49, F16_50, F16_51, F16_52, F16_53, F16_54, F16_55, F16_56, F16_57, F16_58, F16_59, F16_60, F16_61, F16_62, F16_63, F16_64, F16_65, F16_66, F16_67, F16_68, F16_69, F16_70, F16_71, F16_72, F16_73, F16_74, F16_75, F16_76, F16_77, F16_78, F16_79, F16_80, F16_81, F16_82, F16_83, F16_84, F16_85, F16, EX0, EX1, EX2, EX3, EX4, EX5, if_true, if_false, implies_true, forall_const, ne_eq, Nat.reduceEqDiff, reduceIte, reduceCtorEq, Nat.reduceAdd, Nat.reduceLeDiff, Nat.reduceSub, Nat.reduceMul, Int.reduceEq, Int.reduceBEq, Int.reduceBNe, Int.reduceLT, Int.reduceLE, Nat.reduceLT, hlen, hcond]
    refine h _ ?_ ?_ ?_ ?_ ?_ ?_ ?_ <;> simp only [EX0, EX1, EX2, EX3, EX4, EX5, if_true, if_false, implies_true, forall_const, ne_eq, Nat.reduceEqDiff, reduceIte, reduceCtorEq, Nat.reduceAdd, Nat.reduceLeDiff, Nat.reduceSub, Nat.reduceMul, Int.reduceEq, Int.reduceBEq, Int.reduceBNe, Int.reduceLT, Int.reduceLE, Nat.reduceLT, hi]

theorem r_RulesAllows (rooms other : List Int) (h1 : rooms.length < big) (h2 : other.length < big) : cR 16 [.vsl (rooms.map (.int .i64)) none, .vsl (other.map (.int .i64)) none] = some (.bool true) := by
  unfold big at h1 h2
  refine cR_of (F := F16) rfl ?_
  by_cases hlong : 20 < rooms.length
  · have d1 : decide (20 < (rooms.length : Int)) = true := by simp; omega
    simp only [F16_0, F16_1, F16_2, F16_3, F16_4, F16_5, F16_6, F16_7, F16_8, F16_9, F16_10, F16_11, F16_12, F16_13, F16_14, F16_15, F16_16, F16_17, F16_18, F16_19, F16_20, F16_21, F16_22, F16_23, F16_24, F16_25, F16_26, F16_27, F16_28, F16_29, F16_30, F16_31, F16_32, F16_33, F16_34, F16_35, F16_36, F16_37, F16_38, F16_40, F16_41, F16_42, F16_43, F16_44, F16_45, F16_46, F16_47, F16_48, F16_49, F16_50, F16_51, F16_52, F16_53, F16_54, F16_55, F16_56, F16_57, F16_58, F16_59, F16_60, F16_61, F16_62, F16_63, F16_65, F16_66, F16_67, F16_68, F16_69, F16_70, F16_71, F16_72, F16_73, F16_74, F16_75, F16_76, F16_77, F16_78, F16_79, F16_80, F16_81, F16_82, F16_83, F16_84, F16_85, F16, EX0, EX1, EX2, EX3, EX4, EX5, if_true, if_false, implies_true, forall_const, ne_eq, Nat.reduceEqDiff, reduceIte, reduceCtorEq, Nat.reduceAdd, Nat.reduceLeDiff, Nat.reduceSub, Nat.reduceMul, Int.reduceEq, Int.reduceBEq, Int.reduceBNe, Int.reduceLT, Int.reduceLE, Nat.reduceLT, VX, r_awake18, d1]
  have d1 : decide (20 < (rooms.length : Int)) = false := by simp; omega
  by_cases hlong2 : 20 < other.length
  · have d2 : decide (20 < (other.length : Int)) = true := by simp; omega
    simp only [F16_0, F16_1, F16_2, F16_3, F16_4, F16_5, F16_6, F16_7, F16_8, F16_9, F16_10, F16_11, F16_12, F16_13, F16_14, F16_15, F16_16, F16_17, F16_18, F16_19, F16_20, F16_21, F16_22, F16_23, F16_24, F16_25, F16_26, F16_27, F16_28, F16_29, F16_30, F16_31, F16_32, F16_33, F16_34, F16_35, F16_36, F16_37, F16_38, F16_40, F16_41, F16_42, F16_43, F16_44, F16_45, F16_46, F16_47, F16_48, F16_49, F16_50, F16_51, F16_52, F16_53, F16_54, F16_55, F16_56, F16_57, F16_58, F16_59, F16_60, F16_61, F16_62, F16_63, F16_65, F16_66, F16_67, F16_68, F16_69, F16_70, F16_71, F16_72, F16_73, F16_74, F16_75, F16_76, F16_77, F16_78, F16_79, F16_80, F16_81, F16_82, F16_83, F16_84, F16_85, F16, EX0, EX1, EX2, EX3, EX4, EX5, if_true, if_false, implies_true, forall_const, ne_eq, Nat.reduceEqDiff, reduceIte, reduceCtorEq, Nat.reduceAdd, Nat.reduceLeDiff, Nat.reduceSub, Nat.reduceMul, Int.reduceEq, Int.reduceBEq, Int.reduceBNe, Int.reduceLT, Int.reduceLE, Nat.reduceLT, VX, r_awake18, d1, d2]
  have d2 : decide (20 < (other.length : Int)) = false := by simp; omega
  simp only [F16_0, F16_1, F16_2, F16_3, F16_4, F16_5, F16_6, F16_7, F16_8, F16_9, F16_10, F16_11, F16_12, F16_13, F16_14, F16_15, F16_16, F16_17, F16_18, F16_19, F16_20, F16_21, F16_22, F16_23, F16_24, F16_25, F16_26, F16_27, F16_28, F16_29, F16_30, F16_31, F16_32, F16_33, F16_34, F16_35, F16_36, F16_37, F16_38, F16_40, F16_41, F16_42, F16_43, F16_44, F16_45, F16_46, F16_47, F16_48, F16_49, F16_50, F16_51, F16_52, F16_53, F16_54, F16_55, F16_56, F16_57, F16_58, F16_59, F16_60, F16_61, F16_62, F16_63, F16_65, F16_66, F16_67, F16_68, F16_69, F16_70, F16_71, F16_72, F16_73, F16_74, F16_75, F16_76, F16_77, F16_78, F16_79, F16_80, F16_81, F16_82, F16_83, F16_84, F16_85, F16, ex_loop, EX0, EX1, EX2, EX3, EX4, EX5, if_true, if_false, implies_true, forall_const, ne_eq, Nat.reduceEqDiff, reduceIte, reduceCtorEq, Nat.reduceAdd, Nat.reduceLeDiff, Nat.reduceSub, Nat.reduceMul, Int.reduceEq, Int.reduceBEq, Int.reduceBNe, Int.reduceLT, Int.reduceLE, Nat.reduceLT, VX, r_awake18, d1, d2]
  refine ex_whileI (S := Nat × AV × AV × List V × List Bs) (fun p => [(0, .vsl (rooms.map (.int .i64)) none), (1, .vsl (other.map (.int .i64)) none), (5, p.2.1), (6, p.2.2.1), (7, .int .i64 (p.1 : Int))]) (fun p => rooms.length - p.1)
    (fun p σ => Gr LV σ p.2.1 p.2.2.2.1 ∧ Gr LStr σ p.2.2.1 p.2.2.2.2 ∧ Dis p.2.1 p.2.2.1 ∧ Made p.2.2.2.1 p.2.2.2.2 (2 * p.1) ∧ p.2.2.2.2.length ≤ p.1 ∧ p.1 ≤ rooms.length) ?_ (0, .nils, .nils, [], []) _
    ⟨Gr.nil _ _, Gr.nil _ _, fun _ _ _ _ _ _ _ _ _ h => by simp at h, ⟨fun _ h => by simp at h, fun _ h => by simp at h, fun _ h => by simp at h, by simp, rfl⟩, by simp, by simp⟩
  rintro b ⟨j, v1, v2, lst, wl⟩ σ ⟨g1, g2, gd, gm, gl, gj⟩ ih
  simp only at g1 g2 gd gm gl gj ih ⊢
  by_cases hlt : j < rooms.length
  · have hcond := dlt hlt
    obtain ⟨x, hx⟩ := get_lt hlt
    have hidx := idx_map (f := AV.int .i64) (sz := 1) (c := none) hx rfl
    obtain ⟨r, hr8, hr⟩ := roomNum x
    have a2 := u8small (n := r) (by omega)
    have a3 : IntKind.wrap .u8 (97 + (r : Int)) = ((97 + r : Nat) : Int) := by
      have := u8small (n := 97 + r) (by omega)
      rw [← this]; rfl
    have hro : ∀ τ, rowOf τ 1 (.vsl [.int .u8 ((97 + r : Nat) : Int)] (some 1)) = some [.int .u8 ((97 + r : Nat) : Int)] := fun _ => rfl
    have hby : bytesOf [.int .u8 ((97 + r : Nat) : Int)] = some [UInt8.ofNat (97 + r)] := by
      have : (0 : Int) ≤ ((97 + r : Nat) : Int) ∧ ((97 + r : Nat) : Int) < 256 := by omega
      show (match bytesOf [] with | some l => if (0 : Int) ≤ ((97 + r : Nat) : Int) ∧ ((97 + r : Nat) : Int) < 256 then some (UInt8.ofNat ((97 + r : Nat) : Int).toNat :: l) else none | none => none) = _
      simp only [bytesOf, if_pos this]
      rfl
    have hroom : [33, UInt8.ofNat (97 + r), 58, 120, 46, 111, 114, 103] = roomB r := rfl
    have m3 : cR 20 [.vsl [memE (kType, V.mk 3 0 kMRM [] []), memE (kRoomId, V.mk 3 0 (roomB r) [] []), memE (kVia, V.mk 2 1 [] [] [])] none] = some (e1V (roomB r)).enc := r_Map [(kType, V.mk 3 0 kMRM [] []), (kRoomId, V.mk 3 0 (roomB r) [] []), (kVia, V.mk 2 1 [] [] [])] (by simp)
    obtain ⟨f1, f2, f3, _⟩ := room_e1 r hr8
    generalize he1 : e1V (roomB r) = E at m3 f1 f2 f3
    have happ : appendTo σ 5 80 v1 E.enc.cells 1 = some (.sl σ.next 0 (lst ++ [E]).length 5 none, grNext LV σ v1 lst [E]) := g1.push (a := E) (bytes := 80) (by omega) (by have := gm.len; unfold maxBytes; omega)
    have hlo1 : lenOf (.vsl [E.enc] (some 1)) = some 1 := rfl
    have hro1 : ∀ τ, rowOf τ 5 (.vsl [E.enc] (some 1)) = some E.enc.cells := fun τ => by
      have := LV.rowOf τ [E] (some 1)
      simpa [Lay.cells, LV] using this
    have n1 : Own LV (grNext LV σ v1 lst [E]) (some σ.next) (lst ++ [E]) := g1.next (by simp)
    have n2 := g2.other g1 gd (m := [E])
    have nd : Dis (.sl σ.next 0 (lst ++ [E]).length LV.sz none) v2 := g2.dis_next _ _ _ _
    have made1 : Made (lst ++ [E]) (if hasS wl (roomB r) = true then wl else wl ++ [roomB r]) (2 * j + 1) := by
      refine ⟨fun e he => ?_, fun e he => ?_, fun e he => ?_, by have := gm.len; simp; omega, ?_⟩
      · rcases List.mem_append.1 he with h | h
        · exact gm.fine e h
        · simp at h; rw [h]; exact f1
      · rcases List.mem_append.1 he with h | h
        · exact gm.dep e h
        · simp at h; rw [h]; omega
      · rcases List.mem_append.1 he with h | h
        · exact gm.sz e h
        · simp at h; rw [h]; exact f3
      · rw [allowsL_append, gm.want, ← he1, allowsL_e1 hr8]
    simp only [V.enc_cells] at happ hro1
    have hw := wsucc hlt (by omega)
    have hEl : Gr LV (grNext LV σ v1 lst [E]) (.sl σ.next 0 (lst ++ [E]).length 5 none) (lst ++ [E]) := Gr.own n1
    have d3 : ∀ (τ : Store) (u : AV), appendTo τ 1 16 v2 [.str (roomB r)] 1 = appendTo τ 1 16 v2 [.str (roomB r)] 1 := fun _ _ => rfl
    have hlo2 : lenOf (.vsl [.str (roomB r)] (some 1)) = some 1 := rfl
    have hro2 : ∀ τ, rowOf τ 1 (.vsl [.str (roomB r)] (some 1)) = some [.str (roomB r)] := fun _ => rfl
    have weak : ∀ {l2 w n m}, n ≤ m → Made l2 w n → Made l2 w m := fun h hm => ⟨hm.fine, hm.dep, hm.sz, Nat.le_trans hm.len h, hm.want⟩
    have weak : ∀ {l2 : List V} {w : List Bs} {n m : Nat}, n ≤ m → Made l2 w n → Made l2 w m := fun h hm => ⟨hm.fine, hm.dep, hm.sz, Nat.le_trans hm.len h, hm.want⟩
    cases hB : (decide ((j : Int) < (other.length : Int)))
    · simp only [F16_0, F16_1, F16_2, F16_3, F16_4, F16_5, F16_6, F16_7, F16_8, F16_9, F16_10, F16_11, F16_12, F16_13, F16_14, F16_15, F16_16, F16_17, F16_18, F16_19, F16_20, F16_21, F16_22, F16_23, F16_24, F16_25, F16_26, F16_27, F16_28, F16_29, F16_30, F16_31, F16_32, F16_33, F16_34, F16_35, F16_36, F16_37, F16_38, F16_40, F16_41, F16_42, F16_43, F16_44, F16_45, F16_46, F16_47, F16_48, F16_49, F16_50, F16_51, F16_52, F16_53, F16_54, F16_55, F16_56, F16_57, F16_58, F16_59, F16_60, F16_61, F16_62, F16_63, F16_64, F16_65, F16_66, F16_67, F16_68, F16_69, F16_70, F16_71, F16_72, F16_73, F16_74, F16_75, F16_76, F16_77, F16_78, F16_79, F16_80, F16_81, F16_82, F16_83, F16_84, F16_85, F16, ex_loop, EX0, EX1, EX2, EX3, EX4, EX5, if_true, if_false, implies_true, forall_const, ne_eq, Nat.reduceEqDiff, reduceIte, reduceCtorEq, Nat.reduceAdd, Nat.reduceLeDiff, Nat.reduceSub, Nat.reduceMul, Int.reduceEq, Int.reduceBEq, Int.reduceBNe, Int.reduceLT, Int.reduceLE, Nat.reduceLT, VX, hcond, hidx, hr, a2, a3, hro, hby, hroom, r_Text, r_Int, m3, hlo1, hro1, happ, hB]
      refine seen_loop n2 (by omega) ?_
      intro fr' e0 e1 e5 e6 e7 e8 e9
      have q1 := hEl
      have q2 := n2
      have q3 := nd
      have q4 := weak (show 2 * j + 1 ≤ 2 * j + 2 by omega) made1
      cases hh : hasS wl (roomB r)
      · rw [hh] at e9 q4
        simp only [Bool.false_eq_true, if_false] at q4
        have happ2 : appendTo (grNext LV σ v1 lst [E]) 1 16 v2 [.str (roomB r)] 1 = some (.sl (grNext LV σ v1 lst [E]).next 0 (wl ++ [roomB r]).length 1 none, grNext LStr (grNext LV σ v1 lst [E]) v2 wl [roomB r]) := q2.push (a := roomB r) (bytes := 16) (by omega) (by unfold maxBytes; omega)
        simp only [EX0, EX1, EX2, EX3, EX4, EX5, if_true, if_false, implies_true, forall_const, ne_eq, Nat.reduceEqDiff, reduceIte, reduceCtorEq, Nat.reduceAdd, Nat.reduceLeDiff, Nat.reduceSub, Nat.reduceMul, Int.reduceEq, Int.reduceBEq, Int.reduceBNe, Int.reduceLT, Int.reduceLE, Nat.reduceLT, e0, e1, e5, e6, e7, e8, e9, hlo2, hro2, happ2, hw]
        exact ih (j + 1, _, _, lst ++ [E], wl ++ [roomB r]) _ _ (by simp; omega) ⟨q1.other q2 q3.symm, Gr.own (q2.next (by simp)), (q1.dis_next _ _ _ _).symm, weak (by omega) q4, by simp; omega, by simp; omega⟩ (by simp only [EX0, EX1, EX2, EX3, EX4, EX5, if_true, if_false, implies_true, forall_const, ne_eq, Nat.reduceEqDiff, reduceIte, reduceCtorEq, Nat.reduceAdd, Nat.reduceLeDiff, Nat.reduceSub, Nat.reduceMul, Int.reduceEq, Int.reduceBEq, Int.reduceBNe, Int.reduceLT, Int.reduceLE, Nat.reduceLT, e0, e1, e5, e6, e7, e8, e9]; rfl)
      · rw [hh] at e9 q4
        simp only [if_true] at q4
        simp only [EX0, EX1, EX2, EX3, EX4, EX5, if_true, if_false, implies_true, forall_const, ne_eq, Nat.reduceEqDiff, reduceIte, reduceCtorEq, Nat.reduceAdd, Nat.reduceLeDiff, Nat.reduceSub, Nat.reduceMul, Int.reduceEq, Int.reduceBEq, Int.reduceBNe, Int.reduceLT, Int.reduceLE, Nat.reduceLT, e0, e1, e5, e6, e7, e8, e9, hw]
        exact ih (j + 1, _, _, lst ++ [E], wl) _ _ (by simp; omega) ⟨q1, q2, q3, weak (by omega) q4, by simp; omega, by simp; omega⟩ (by simp only [EX0, EX1, EX2, EX3, EX4, EX5, if_true, if_false, implies_true, forall_const, ne_eq, Nat.reduceEqDiff, reduceIte, reduceCtorEq, Nat.reduceAdd, Nat.reduceLeDiff, Nat.reduceSub, Nat.reduceMul, Int.reduceEq, Int.reduceBEq, Int.reduceBNe, Int.reduceLT, Int.reduceLE, Nat.reduceLT, e0, e1, e5, e6, e7, e8, e9])
    · have hlt2 : j < other.length := by simpa using hB
      obtain ⟨o, ho⟩ := get_lt hlt2
      have hidx2 := idx_map (f := AV.int .i64) (sz := 1) (c := none) ho rfl
      cases hbit : (IntKind.wrap .i64 ((BitVec.ofInt IntKind.i64.bits o &&& BitVec.ofInt IntKind.i64.bits 1).toNat : Int) == 1)
      · simp only [F16_0, F16_1, F16_2, F16_3, F16_4, F16_5, F16_6, F16_7, F16_8, F16_9, F16_10, F16_11, F16_12, F16_13, F16_14, F16_15, F16_16, F16_17, F16_18, F16_19, F16_20, F16_21, F16_22, F16_23, F16_24, F16_25, F16_26, F16_27, F16_28, F16_29, F16_30, F16_31, F16_32, F16_33, F16_34, F16_35, F16_36, F16_37, F16_38, F16_40, F16_41, F16_42, F16_43, F16_44, F16_45, F16_46, F16_47, F16_48, F16_49, F16_50, F16_51, F16_52, F16_53, F16_54, F16_55, F16_56, F16_57, F16_58, F16_59, F16_60, F16_61, F16_62, F16_63, F16_64, F16_65, F16_66, F16_67, F16_68, F16_69, F16_70, F16_71, F16_72, F16_73, F16_74, F16_75, F16_76, F16_77, F16_78, F16_79, F16_80, F16_81, F16_82, F16_83, F16_84, F16_85, F16, ex_loop, EX0, EX1, EX2, EX3, EX4, EX5, if_true, if_false, implies_true, forall_const, ne_eq, Nat.reduceEqDiff, reduceIte, reduceCtorEq, Nat.reduceAdd, Nat.reduceLeDiff, Nat.reduceSub, Nat.reduceMul, Int.reduceEq, Int.reduceBEq, Int.reduceBNe, Int.reduceLT, Int.reduceLE, Nat.reduceLT, VX, hcond, hidx, hr, a2, a3, hro, hby, hroom, r_Text, r_Int, m3, hlo1, hro1, happ, hB, hidx2, hbit]
        refine seen_loop n2 (by omega) ?_
        intro fr' e0 e1 e5 e6 e7 e8 e9
        have q1 := hEl
        have q2 := n2
        have q3 := nd
        have q4 := weak (show 2 * j + 1 ≤ 2 * j + 2 by omega) made1
        cases hh : hasS wl (roomB r)
        · rw [hh] at e9 q4
          simp only [Bool.false_eq_true, if_false] at q4
          have happ2 : appendTo (grNext LV σ v1 lst [E]) 1 16 v2 [.str (roomB r)] 1 = some (.sl (grNext LV σ v1 lst [E]).next 0 (wl ++ [roomB r]).length 1 none, grNext LStr (grNext LV σ v1 lst [E]) v2 wl [roomB r]) := q2.push (a := roomB r) (bytes := 16) (by omega) (by unfold maxBytes; omega)
          simp only [EX0, EX1, EX2, EX3, EX4, EX5, if_true, if_false, implies_true, forall_const, ne_eq, Nat.reduceEqDiff, reduceIte, reduceCtorEq, Nat.reduceAdd, Nat.reduceLeDiff, Nat.reduceSub, Nat.reduceMul, Int.reduceEq, Int.reduceBEq, Int.reduceBNe, Int.reduceLT, Int.reduceLE, Nat.reduceLT, e0, e1, e5, e6, e7, e8, e9, hlo2, hro2, happ2, hw]
          exact ih (j + 1, _, _, lst ++ [E], wl ++ [roomB r]) _ _ (by simp; omega) ⟨q1.other q2 q3.symm, Gr.own (q2.next (by simp)), (q1.dis_next _ _ _ _).symm, weak (by omega) q4, by simp; omega, by simp; omega⟩ (by simp only [EX0, EX1, EX2, EX3, EX4, EX5, if_true, if_false, implies_true, forall_const, ne_eq, Nat.reduceEqDiff, reduceIte, reduceCtorEq, Nat.reduceAdd, Nat.reduceLeDiff, Nat.reduceSub, Nat.reduceMul, Int.reduceEq, Int.reduceBEq, Int.reduceBNe, Int.reduceLT, Int.reduceLE, Nat.reduceLT, e0, e1, e5, e6, e7, e8, e9]; rfl)
        · rw [hh] at e9 q4
          simp only [if_true] at q4
          simp only [EX0, EX1, EX2, EX3, EX4, EX5, if_true, if_false, implies_true, forall_const, ne_eq, Nat.reduceEqDiff, reduceIte, reduceCtorEq, Nat.reduceAdd, Nat.reduceLeDiff, Nat.reduceSub, Nat.reduceMul, Int.reduceEq, Int.reduceBEq, Int.reduceBNe, Int.reduceLT, Int.reduceLE, Nat.reduceLT, e0, e1, e5, e6, e7, e8, e9, hw]
          exact ih (j + 1, _, _, lst ++ [E], wl) _ _ (by simp; omega) ⟨q1, q2, q3, weak (by omega) q4, by simp; omega, by simp; omega⟩ (by simp only [EX0, EX1, EX2, EX3, EX4, EX5, if_true, if_false, implies_true, forall_const, ne_eq, Nat.reduceEqDiff, reduceIte, reduceCtorEq, Nat.reduceAdd, Nat.reduceLeDiff, Nat.reduceSub, Nat.reduceMul, Int.reduceEq, Int.reduceBEq, Int.reduceBNe, Int.reduceLT, Int.reduceLE, Nat.reduceLT, e0, e1, e5, e6, e7, e8, e9])
      · obtain ⟨q, hq4, hq⟩ := otherNum o
        have m0 : cR 20 [.vsl [] none] = some (mapOf []).enc := r_Map [] (by simp)
        have m1 : cR 20 [.vsl [memE (kRoomId, V.mk 3 0 [33, 113, 58, 120] [] [])] none] = some (mapOf [(kRoomId, V.mk 3 0 [33, 113, 58, 120] [] [])]).enc := r_Map [(kRoomId, V.mk 3 0 [33, 113, 58, 120] [] [])] (by simp)
        obtain ⟨y1, y2, y3, _⟩ := e2_facts q hq4 r hr8
        have y4 := allowsL_e2 hq4 hr8
        have hidx3 : idxOf 5 none (.vsl [(V.mk 2 1 [] [] []).enc, (mapOf []).enc, (V.mk 3 0 (roomB r) [] []).enc, (mapOf [(kRoomId, V.mk 3 0 [33, 113, 58, 120] [] [])]).enc] (some 4)) (.int .i64 (q : Int)) = some (.vptr (e2V q (roomB r)).enc.cells 0) := by
          have := idx_map (f := V.enc) (sz := 5) (c := some 4) (l := [V.mk 2 1 [] [] [], mapOf [], V.mk 3 0 (roomB r) [] [], mapOf [(kRoomId, V.mk 3 0 [33, 113, 58, 120] [] [])]]) (j := q) (a := e2V q (roomB r)) (by
            match q, hq4 with
            | 0, _ | 1, _ | 2, _ | 3, _ => rfl) (by simp [V.enc_cells])
          simpa using this
        generalize e2V q (roomB r) = E2 at y1 y2 y3 y4 hidx3
        generalize mapOf [] = M0 at m0 hidx3
        generalize mapOf [(kRoomId, V.mk 3 0 [33, 113, 58, 120] [] [])] = M1 at m1 hidx3
        have happ3 : appendTo (grNext LV σ v1 lst [E]) 5 80 (.sl σ.next 0 (lst ++ [E]).length 5 none) E2.enc.cells 1 = some (.sl (grNext LV σ v1 lst [E]).next 0 (lst ++ [E] ++ [E2]).length 5 none, grNext LV (grNext LV σ v1 lst [E]) (.sl σ.next 0 (lst ++ [E]).length 5 none) (lst ++ [E]) [E2]) :=
          hEl.push (a := E2) (bytes := 80) (by omega) (by have := gm.len; simp; unfold maxBytes; omega)
        have hlo3 : lenOf (.vsl [E2.enc] (some 1)) = some 1 := rfl
        have hro3 : ∀ τ, rowOf τ 5 (.vsl [E2.enc] (some 1)) = some E2.enc.cells := fun τ => by
          have := LV.rowOf τ [E2] (some 1)
          simpa [Lay.cells, LV] using this
        have p1 : Own LV _ (some (grNext LV σ v1 lst [E]).next) (lst ++ [E] ++ [E2]) := hEl.next (m := [E2]) (by simp)
        have p2 := n2.other hEl nd (m := [E2])
        have p3 : Dis (.sl (grNext LV σ v1 lst [E]).next 0 (lst ++ [E] ++ [E2]).length 5 none) v2 := n2.dis_next _ _ _ _
        have made2 : Made (lst ++ [E] ++ [E2]) (if hasS wl (roomB r) = true then wl else wl ++ [roomB r]) (2 * j + 2) := by
          refine ⟨fun e he => ?_, fun e he => ?_, fun e he => ?_, by have := made1.len; simp at this ⊢; omega, ?_⟩
          · rcases List.mem_append.1 he with h | h
            · exact made1.fine e h
            · simp at h; rw [h]; exact y1
          · rcases List.mem_append.1 he with h | h
            · exact made1.dep e h
            · simp at h; rw [h]; omega
          · rcases List.mem_append.1 he with h | h
            · exact made1.sz e h
            · simp at h; rw [h]; exact y3
          · rw [allowsL_append, made1.want, y4]
        have p4 : Gr LV _ (.sl (grNext LV σ v1 lst [E]).next 0 (lst ++ [E] ++ [E2]).length 5 none) (lst ++ [E] ++ [E2]) := Gr.own p1
        simp only [V.enc_cells] at happ3 hro3 hidx3
        simp only [F16_0, F16_1, F16_2, F16_3, F16_4, F16_5, F16_6, F16_7, F16_8, F16_9, F16_10, F16_11, F16_12, F16_13, F16_14, F16_15, F16_16, F16_17, F16_18, F16_19, F16_20, F16_21, F16_22, F16_23, F16_24, F16_25, F16_26, F16_27, F16_28, F16_29, F16_30, F16_31, F16_32, F16_33, F16_34, F16_35, F16_36, F16_37, F16_38, F16_40, F16_41, F16_42, F16_43, F16_44, F16_45, F16_46, F16_47, F16_48, F16_49, F16_50, F16_51, F16_52, F16_53, F16_54, F16_55, F16_56, F16_57, F16_58, F16_59, F16_60, F16_61, F16_62, F16_63, F16_64, F16_65, F16_66, F16_67, F16_68, F16_69, F16_70, F16_71, F16_72, F16_73, F16_74, F16_75, F16_76, F16_77, F16_78, F16_79, F16_80, F16_81, F16_82, F16_83, F16_84, F16_85, F16, ex_loop, EX0, EX1, EX2, EX3, EX4, EX5, if_true, if_false, implies_true, forall_const, ne_eq, Nat.reduceEqDiff, reduceIte, reduceCtorEq, Nat.reduceAdd, Nat.reduceLeDiff, Nat.reduceSub, Nat.reduceMul, Int.reduceEq, Int.reduceBEq, Int.reduceBNe, Int.reduceLT, Int.reduceLE, Nat.reduceLT, VX, readAt_some, hcond, hidx, hr, a2, a3, hro, hby, hroom, r_Text, r_Int, m3, hlo1, hro1, happ, hB, hidx2, hbit, hq, m0, m1, hidx3, hlo3, hro3, happ3]
        refine seen_loop p2 (by omega) ?_
        intro fr' e0 e1 e5 e6 e7 e8 e9
        have q1 := p4
        have q2 := p2
        have q3 := p3
        have q4 := weak (show 2 * j + 2 ≤ 2 * j + 2 by omega) made2
        cases hh : hasS wl (roomB r)
        · rw [hh] at e9 q4
          simp only [Bool.false_eq_true, if_false] at q4
          have happ2 : appendTo (grNext LV (grNext LV σ v1 lst [E]) (.sl σ.next 0 (lst ++ [E]).length 5 none) (lst ++ [E]) [E2]) 1 16 v2 [.str (roomB r)] 1 = some (.sl (grNext LV (grNext LV σ v1 lst [E]) (.sl σ.next 0 (lst ++ [E]).length 5 none) (lst ++ [E]) [E2]).next 0 (wl ++ [roomB r]).length 1 none, grNext LStr (grNext LV (grNext LV σ v1 lst [E]) (.sl σ.next 0 (lst ++ [E]).length 5 none) (lst ++ [E]) [E2]) v2 wl [roomB r]) := q2.push (a := roomB r) (bytes := 16) (by omega) (by unfold maxBytes; omega)
          simp only [EX0, EX1, EX2, EX3, EX4, EX5, if_true, if_false, implies_true, forall_const, ne_eq, Nat.reduceEqDiff, reduceIte, reduceCtorEq, Nat.reduceAdd, Nat.reduceLeDiff, Nat.reduceSub, Nat.reduceMul, Int.reduceEq, Int.reduceBEq, Int.reduceBNe, Int.reduceLT, Int.reduceLE, Nat.reduceLT, e0, e1, e5, e6, e7, e8, e9, hlo2, hro2, happ2, hw]
          exact ih (j + 1, _, _, lst ++ [E] ++ [E2], wl ++ [roomB r]) _ _ (by simp; omega) ⟨q1.other q2 q3.symm, Gr.own (q2.next (by simp)), (q1.dis_next _ _ _ _).symm, weak (by omega) q4, by simp; omega, by simp; omega⟩ (by simp only [EX0, EX1, EX2, EX3, EX4, EX5, if_true, if_false, implies_true, forall_const, ne_eq, Nat.reduceEqDiff, reduceIte, reduceCtorEq, Nat.reduceAdd, Nat.reduceLeDiff, Nat.reduceSub, Nat.reduceMul, Int.reduceEq, Int.reduceBEq, Int.reduceBNe, Int.reduceLT, Int.reduceLE, Nat.reduceLT, e0, e1, e5, e6, e7, e8, e9]; rfl)
        · rw [hh] at e9 q4
          simp only [if_true] at q4
          simp only [EX0, EX1, EX2, EX3, EX4, EX5, if_true, if_false, implies_true, forall_const, ne_eq, Nat.reduceEqDiff, reduceIte, reduceCtorEq, Nat.reduceAdd, Nat.reduceLeDiff, Nat.reduceSub, Nat.reduceMul, Int.reduceEq, Int.reduceBEq, Int.reduceBNe, Int.reduceLT, Int.reduceLE, Nat.reduceLT, e0, e1, e5, e6, e7, e8, e9, hw]
          exact ih (j + 1, _, _, lst ++ [E] ++ [E2], wl) _ _ (by simp; omega) ⟨q1, q2, q3, weak (by omega) q4, by simp; omega, by simp; omega⟩ (by simp only [EX0, EX1, EX2, EX3, EX4, EX5, if_true, if_false, implies_true, forall_const, ne_eq, Nat.reduceEqDiff, reduceIte, reduceCtorEq, Nat.reduceAdd, Nat.reduceLeDiff, Nat.reduceSub, Nat.reduceMul, Int.reduceEq, Int.reduceBEq, Int.reduceBNe, Int.reduceLT, Int.reduceLE, Nat.reduceLT, e0, e1, e5, e6, e7, e8, e9])
  · have hcond := dge (Nat.not_lt.1 hlt)
    have hlen : lst.length ≤ 40 := by have := gm.len; omega
    obtain ⟨σ', c1, c2⟩ := c_List g1 (by unfold lim; omega)
    have r2 : Rd LStr σ' v2 wl := by
      rcases c2 with rfl | rfl
      · exact g2.rd
      · exact g2.rd.freeze
    have hC : cR 20 [.vsl [memE (kAllow, V.mk 4 0 [] lst []), memE (kJoinRule, V.mk 3 0 [114, 101, 115, 116, 114, 105, 99, 116, 101, 100] [] [])] none] = some (cV lst).enc := r_Map [(kAllow, V.mk 4 0 [] lst []), (kJoinRule, V.mk 3 0 [114, 101, 115, 116, 114, 105, 99, 116, 101, 100] [] [])] (by simp)
    obtain ⟨w1, w2⟩ := cV_allows gm.fine gm.dep
    rw [gm.want] at w1
    have hsz : (cV lst).sz < lim := by
      have := szL_le gm.sz
      rw [cV_eq]
      simp [V.sz, szM, szL, tV]
      unfold lim; omega
    have hA := r_allows (cV lst) hsz
    have hR := r_rule (cV lst) (by have : lim ≤ big := by decide
                                   omega)
    rw [w1] at hA
    rw [w2] at hR
    generalize cV lst = C at hC hA hR
    have hT : ∀ cs cs', callP ipU gU false (.fn 10 [] []) [.vsl (wl.map .str) none, v2] { next := σ'.next + 1, m := (σ'.next, .own cs) :: (σ'.next, .own cs') :: σ'.m } = some (.bool true, { next := σ'.next + 1, m := (σ'.next, .own cs) :: (σ'.next, .own cs') :: σ'.m }) := fun cs cs' =>
      (r2.newset cs cs').call2 (closedL_strs wl) (by
        have := r_Texts wl wl (by unfold big; omega)
        simp only [AV.er, erL_strs]
        have e : (wl == wl) = true := by simp
        rw [e] at this
        exact this) rfl
    simp only [F16_0, F16_1, F16_2, F16_3, F16_4, F16_5, F16_6, F16_7, F16_8, F16_9, F16_10, F16_11, F16_12, F16_13, F16_14, F16_15, F16_16, F16_17, F16_18, F16_19, F16_20, F16_21, F16_22, F16_23, F16_24, F16_25, F16_26, F16_27, F16_28, F16_29, F16_30, F16_31, F16_32, F16_33, F16_34, F16_35, F16_36, F16_37, F16_38, F16_40, F16_41, F16_42, F16_43, F16_44, F16_45, F16_46, F16_47, F16_48, F16_49, F16_50, F16_51, F16_52, F16_53, F16_54, F16_55, F16_56, F16_57, F16_58, F16_59, F16_60, F16_61, F16_62, F16_63, F16_64, F16_65, F16_66, F16_67, F16_68, F16_69, F16_70, F16_71, F16_72, F16_73, F16_74, F16_75, F16_76, F16_77, F16_78, F16_79, F16_80, F16_81, F16_82, F16_83, F16_84, F16_85, F16, EX0, EX1, EX2, EX3, EX4, EX5, if_true, if_false, implies_true, forall_const, ne_eq, Nat.reduceEqDiff, reduceIte, reduceCtorEq, Nat.reduceAdd, Nat.reduceLeDiff, Nat.reduceSub, Nat.reduceMul, Int.reduceEq, Int.reduceBEq, Int.reduceBNe, Int.reduceLT, Int.reduceLE, Nat.reduceLT, VX, readAt_some, hcond, c1, r_Text, hC, hA, hT, hR]
    rfl
end Go.Ab
