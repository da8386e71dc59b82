/-
  Package postriderlaw18: the first forty calls, texts at sixty-five bytes (Cut). Conditions: as the theorem's own hypotheses say.
-/
import Derived.Test.YtlkghcfjcdeokaaDoorDkJ
import Derived.Test.YtlkghcfjcdeokaaDoorDkO
namespace Go.Proofs.YtlkghcfjcdeokaaDoor
open Go.RowKit Go.Shelf

theorem infoOp : (Tryd.prog.info? 37).map (fun i => (i.zero, i.size)) = some (some (.agg #[.int .i64 0, .int .i64 0, .int .i64 0, .string ByteArray.empty]), 4) := by kernel_rfl
theorem infoOp2 : ((Tryd.prog.info? 37).map fun i => i.bytes) = some 40 := by kernel_rfl
/-- A call with its text's first sixty-five bytes. -/
def OI.cut (r : OI) : OI := ⟨r.kind, r.a, r.b, r.s.extract 0 (min r.s.size 65)⟩
theorem run_min_int2 (ts : Array TypeId) (t : TypeId) (x y : Int) (w : World) : (Builtin.min_ ts t #[.int .i64 x, .int .i64 y]).run Tryd.prog w = .ok (.int .i64 (if y < x then y else x)) w := by
  simp [Builtin.min_, Builtin.min2]
theorem min2e (ts : Array TypeId) (t : TypeId) (x : Nat) : ∃ m : Nat, m = min x 65 ∧ ∀ w : World, (Builtin.min_ ts t #[.int .i64 (x : Int), .int .i64 65]).run Tryd.prog w = .ok (.int .i64 (m : Int)) w := by
  refine ⟨min x 65, rfl, fun w => ?_⟩
  rw [run_min_int2]
  congr 2
  split <;> omega

set_option maxRecDepth 100000 in
set_option maxHeartbeats 1000000 in
theorem DCut_any (A : Option Addr) (n c : Nat) (xs : List OI) (w : World) (hx : xs.length = min n 40) (ha : RdO w A xs) (hd : ∀ x ∈ xs, x.s.size ≤ 9223372036854775807) :
    Calls Tryd.prog 10 #[.slice A n c] w fun e w' => ∃ V, e = .returned V ∧ w'.ownsRow w.heap.size 37 4 V xs.length (cellsO (xs.map OI.cut)) ∧ Below w.heap.size w w' := by
  obtain ⟨i0, hi0, hzz⟩ := Option.map_eq_some_iff.1 infoOp
  have hz0 := congrArg Prod.fst hzz
  have hz1 := congrArg Prod.snd hzz
  dsimp only at hz0 hz1
  have hz2 : i0.bytes = 40 := by have := infoOp2; rw [hi0] at this; simpa using this
  go_enter Tryd.func10, Tryd.ntmps10
  go_wp2_with fail
  go_loopw [3, 4] (fun out i wr => ∃ k : Nat, k ≤ xs.length ∧ i = .int .i64 (k : Int) ∧ wr.ownsRow w.heap.size 37 4 out k (cellsO ((xs.take k).map OI.cut)) ∧ Below w.heap.size w wr) (fun _ i _ => xs.length - (intOf i).toNat)
  case atStart => exact ⟨0, by omega, rfl, own_nil, Below.refl _ _⟩
  case round =>
    obtain ⟨k, hk, rfl, hown, hbe⟩ := hrel
    have hsz := hbe.size
    by_cases hlt : k < xs.length
    · obtain ⟨a, rfl, hab, hca⟩ := ha (by omega)
      obtain ⟨g1, g2, g3, g4⟩ := hca k hlt
      have hdk := hd _ (List.getElem_mem hlt)
      have hsn : cellsO ((xs.take (k + 1)).map OI.cut) = cellsO ((xs.take k).map OI.cut) ++ [.int .i64 xs[k].kind, .int .i64 xs[k].a, .int .i64 xs[k].b, .string (xs[k].s.extract 0 (min xs[k].s.size 65))] := by
        rw [List.take_succ_eq_append_getElem hlt, List.map_append, List.map_singleton, cellsO_snoc]
        rfl
      have HS := Lib.hid hsn
      have hl : (a.add (k * 4)).block < w.heap.size := by rw [add_blk]; exact hab
      have x1 := (hbe.cell hl).trans g1
      have x2 := (hbe.cell (by exact hl)).trans g2
      have x3 := (hbe.cell (by exact hl)).trans g3
      have x4 := (hbe.cell (by exact hl)).trans g4
      clear hsn g1 g2 g3 g4 hca ha hd
      generalize xs[k].kind = op at *
      generalize xs[k].a = ia at *
      generalize xs[k].b = ib at *
      generalize xs[k].s = D at *
      have i1 : (0 : Int) ≤ (k : Int) := by omega
      have i2 : (k : Int) < (n : Int) := by omega
      have i3 : (k : Int) < 40 := by omega
      obtain ⟨A0, c0, rfl⟩ := own_form hown
      obtain ⟨m, hm, hmin⟩ := min2e #[3, 3] 3 D.size
      rw [← hm] at HS
      have z0 : (0 : Int) ≤ (m : Int) := by omega
      have z1 : (m : Int) ≤ (D.size : Int) := by omega
      clear hm
      have hown1 := (hown.alloc (.cells #[.int .i64 op, .int .i64 ia, .int .i64 ib, .string (D.extract 0 m)] 37)).alloc (.cells #[.int .i64 op, .int .i64 ia, .int .i64 ib, .string (D.extract 0 m)] 37)
      go_wp2_with (at_builtin; refine wpList_append_own _ rfl _ _ 22 rfl w.heap.size 37 i0 (.agg #[.int .i64 0, .int .i64 0, .int .i64 0, .string ByteArray.empty]) 4 40 Tryd.underlying22 hi0 hz0 hz1 hz2 rfl (by omega) _ _ _ rfl hown1 ⟨wr.heap.size + 1, 0, none⟩ 1 1 [.int .i64 op, .int .i64 ia, .int .i64 ib, .string (D.extract 0 m)] rfl rfl (fun j u hj => by have := new_cells (wr.alloc (.cells #[.int .i64 op, .int .i64 ia, .int .i64 ib, .string (D.extract 0 m)] 37)) [.int .i64 op, .int .i64 ia, .int .i64 ib, .string (D.extract 0 m)] 37 j u hj; rw [World.size_alloc] at this; exact this) (by intro u hu; simp only [List.mem_cons, List.not_mem_nil, or_false] at hu; obtain rfl | rfl | rfl | rfl := hu <;> rfl) (by unfold maxLen; omega) (by omega) (by simp; omega) ?_; intro v' w3 hown3 hgrow _)
      have hbe3 : Below w.heap.size w w3 := below_append ((hbe.alloc hsz _).alloc (by simp; omega) _) hown1 (Nat.le_refl _) (Nat.le_refl _) hgrow
      obtain ⟨A1, c1, rfl⟩ := own_form hown3
      rw [← HS.out] at hown3
      go_roundw
      case rel => exact ⟨k + 1, by omega, by go_num, hown3, hbe3⟩
      case measure => simp [intOf]; omega
    · obtain rfl : k = xs.length := by omega
      rw [List.take_length] at hown
      obtain ⟨A0, c0, rfl⟩ := own_form hown
      by_cases hn : n ≤ 40
      · have hxn : xs.length = n := by omega
        rw [hxn] at hown ⊢
        have hq : ¬ (n : Int) < (n : Int) := by omega
        go_wp2_with fail
        go_ret
        exact ⟨_, rfl, hown, hbe⟩
      · have hxn : xs.length = 40 := by omega
        rw [hxn] at hown ⊢
        have hq : (40 : Int) < (n : Int) := by omega
        have hq2 : ((40 : Nat) : Int) < (n : Int) := by omega
        go_wp2_with fail
        go_ret
        exact ⟨.slice A0 40 c0, rfl, by rw [hxn]; exact hown, hbe⟩

end Go.Proofs.YtlkghcfjcdeokaaDoor
