/-
  Package postriderlaw18: a call on a disk, and on the document's disk, with what of memory stands (do, want). Conditions: errors.errorType holds the handle of the type error ('SInv'); nums' listed variables hold different errors ('NInv').
-/
import Derived.Test.YtlkghcfjcdeokaaDoorDkX
namespace Go.Proofs.YtlkghcfjcdeokaaDoor
open Go.RowKit Go.Shelf

/-- What do leaves; all blocks but the disk's stand. -/
def DoneB (p g : Nat) (r : DN × ByteArray × Int) (w : World) (e : Ending) (w' : World) : Prop := e = .returned (.tuple #[.string r.2.1, .int .i64 r.2.2]) ∧ DAt w' p g r.1 ∧ But2 p g w w'
/-- What want leaves. -/
def WantB (p g c : Nat) (r : DN × ByteArray × Int) (w : World) (e : Ending) (w' : World) : Prop := e = .returned (.tuple #[.string r.2.1, .int .i64 r.2.2]) ∧ (∃ k, RAt w' p g c k r.1) ∧ But2 p g w w'

set_option maxRecDepth 100000 in
set_option maxHeartbeats 2000000 in
theorem do_but {w : World} {p g : Nat} {d : DN} {aN aW aS : Addr} (x : OI) (h : DAt w p g d) (h0 : 0 < d.L.length) (hI : DInv w aN aW aS) (hn : d.n < 1000000) (hx : x.Ok) :
    Calls Tryd.prog 16 #[.pointer (some ⟨p, 0, none⟩), .agg #[.int .i64 x.kind, .int .i64 x.a, .int .i64 x.b, .string x.s]] w (DoneB p g (d.act x) w) := by
  obtain ⟨op, a, b, s⟩ := x
  obtain ⟨x1, x2, x3⟩ := hx
  dsimp only at x1 x2 x3 ⊢
  have hb := ext_new w (.cells #[.int .i64 op, .int .i64 a, .int .i64 b, .string s] 37)
  have h1 := h.below hb
  have hI1 := hI.below hb
  have hbB := But2.of_below (p := p) (g := g) hb
  have hf := h.fit
  have hW := Write_any a s h1 hI1.s hn
  have hR := Read_any a h1 hI1.s
  have hB := DBytes_any a b aN aW aS h1 hI1 h0 x2 x3
  have hA := Arm_any a b h1 hI1.s x1
  have hS := Restart_any h1
  have l1 := (DN.write_fit hf a s.data.toList).2.1
  have l2 := (DN.arm_fit hf a b).2.1
  have l3 := (DN.restart_fit hf).2.1
  by_cases k0 : op = 0
  · subst k0
    rw [DN.act, if_pos rfl]
    clear hR hB hA hS l2 l3
    generalize d.write a s.data.toList = r at *
    go_enter Tryd.func16, Tryd.ntmps16
    go_wp2_with fail
    refine hW.mono ?_
    rintro e w2 ⟨rfl, q1, q2⟩
    go_wp2_with fail
    go_ret2
    exact ⟨rfl, q1, hbB.trans q2⟩
  · by_cases k1 : op = 1
    · subst k1
      rw [DN.act, if_neg k0, if_pos rfl]
      clear hW hB hA hS l1 l2 l3
      generalize d.read a = r at *
      go_enter Tryd.func16, Tryd.ntmps16
      go_wp2_with fail
      refine hR.mono ?_
      rintro e w2 ⟨rfl, q1⟩
      go_wp2_with fail
      go_ret2
      exact ⟨rfl, h1.below q1, hbB.trans (But2.of_below q1)⟩
    · by_cases k2 : op = 2
      · subst k2
        rw [DN.act, if_neg k0, if_neg k1, if_pos rfl]
        clear hW hR hA hS l1 l2 l3
        generalize d.bytes a b = r at *
        go_enter Tryd.func16, Tryd.ntmps16
        go_wp2_with fail
        refine hB.mono ?_
        rintro e w2 ⟨rfl, q1⟩
        go_wp2_with fail
        go_ret2
        exact ⟨rfl, h1.below q1, hbB.trans (But2.of_below q1)⟩
      · by_cases k3 : op = 3
        · subst k3
          rw [DN.act, if_neg k0, if_neg k1, if_neg k2, if_pos rfl]
          clear hW hR hB hS l1 l3
          generalize d.arm a b = r at *
          go_enter Tryd.func16, Tryd.ntmps16
          go_wp2_with fail
          refine hA.mono ?_
          rintro e w2 ⟨rfl, q1, q2⟩
          go_wp2_with fail
          go_ret2
          exact ⟨rfl, q1, hbB.trans q2⟩
        · by_cases k4 : op = 4
          · subst k4
            rw [DN.act, if_neg k0, if_neg k1, if_neg k2, if_neg k3, if_pos rfl]
            clear hW hR hB hA l1 l2
            generalize d.restart = r at *
            go_enter Tryd.func16, Tryd.ntmps16
            go_wp2_with fail
            refine hS.mono ?_
            rintro e w2 ⟨rfl, q1, q2⟩
            go_wp2_with fail
            go_ret2
            exact ⟨rfl, q1, hbB.trans q2⟩
          · rw [DN.act, if_neg k0, if_neg k1, if_neg k2, if_neg k3, if_neg k4]
            clear hW hR hB hA hS l1 l2 l3
            go_enter Tryd.func16, Tryd.ntmps16
            go_wp2_with fail
            go_ret2
            exact ⟨rfl, h1, hbB⟩

set_option maxRecDepth 100000 in
set_option maxHeartbeats 2000000 in
theorem want_any {w : World} {p g c k : Nat} {d : DN} (x : OI) (h : RAt w p g c k d) (hn : d.n < 1000000) (hx : x.Ok) :
    Calls Tryd.prog 17 #[.pointer (some ⟨p, 0, none⟩), .agg #[.int .i64 x.kind, .int .i64 x.a, .int .i64 x.b, .string x.s]] w (WantB p g c (d.act x) w) := by
  obtain ⟨op, a, b, s⟩ := x
  obtain ⟨x1, x2, x3⟩ := hx
  dsimp only at x1 x2 x3 ⊢
  have hb := ext_new w (.cells #[.int .i64 op, .int .i64 a, .int .i64 b, .string s] 37)
  have h1 := h.below hb
  have hbB := But2.of_below (p := p) (g := g) hb
  have hW := RWrite_any a s h1 hn
  have hR := RRead_any a h1
  have hB := RBytes_any a b h1 x2 x3
  have hA := RArm_any a b h1 x1
  have hS := RRestart_any h1
  by_cases k0 : op = 0
  · subst k0
    rw [DN.act, if_pos rfl]
    clear hR hB hA hS
    generalize d.write a s.data.toList = r at *
    go_enter Tryd.func17, Tryd.ntmps17
    go_wp2_with fail
    refine hW.mono ?_
    rintro e w2 ⟨rfl, q1, q2⟩
    go_wp2_with fail
    go_ret2
    exact ⟨rfl, q1, hbB.trans q2⟩
  · by_cases k1 : op = 1
    · subst k1
      rw [DN.act, if_neg k0, if_pos rfl]
      clear hW hB hA hS
      generalize d.read a = r at *
      go_enter Tryd.func17, Tryd.ntmps17
      go_wp2_with fail
      refine hR.mono ?_
      rintro e w2 ⟨rfl, rfl⟩
      go_wp2_with fail
      go_ret2
      exact ⟨rfl, ⟨k, h1⟩, hbB⟩
    · by_cases k2 : op = 2
      · subst k2
        rw [DN.act, if_neg k0, if_neg k1, if_pos rfl]
        clear hW hR hA hS
        generalize d.bytes a b = r at *
        go_enter Tryd.func17, Tryd.ntmps17
        go_wp2_with fail
        refine hB.mono ?_
        rintro e w2 ⟨rfl, rfl⟩
        go_wp2_with fail
        go_ret2
        exact ⟨rfl, ⟨k, h1⟩, hbB⟩
      · by_cases k3 : op = 3
        · subst k3
          rw [DN.act, if_neg k0, if_neg k1, if_neg k2, if_pos rfl]
          clear hW hR hB hS
          generalize d.arm a b = r at *
          go_enter Tryd.func17, Tryd.ntmps17
          go_wp2_with fail
          refine hA.mono ?_
          rintro e w2 ⟨rfl, q1, q2⟩
          go_wp2_with fail
          go_ret2
          exact ⟨rfl, q1, hbB.trans q2⟩
        · by_cases k4 : op = 4
          · subst k4
            rw [DN.act, if_neg k0, if_neg k1, if_neg k2, if_neg k3, if_pos rfl]
            clear hW hR hB hA
            generalize d.restart = r at *
            go_enter Tryd.func17, Tryd.ntmps17
            go_wp2_with fail
            refine hS.mono ?_
            rintro e w2 ⟨rfl, q1, q2⟩
            go_wp2_with fail
            go_ret2
            exact ⟨rfl, q1, hbB.trans q2⟩
          · rw [DN.act, if_neg k0, if_neg k1, if_neg k2, if_neg k3, if_neg k4]
            clear hW hR hB hA hS
            go_enter Tryd.func17, Tryd.ntmps17
            go_wp2_with fail
            go_ret2
            exact ⟨rfl, ⟨k, h1⟩, hbB⟩

end Go.Proofs.YtlkghcfjcdeokaaDoor
