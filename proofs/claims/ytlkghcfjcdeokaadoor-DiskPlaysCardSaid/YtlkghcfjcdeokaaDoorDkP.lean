/-
  Package postriderlaw18: a call on a disk (do). Conditions: errors.errorType holds the handle of the type error ('SInv'); nums' listed variables hold different errors ('NInv').
-/
import Derived.Test.YtlkghcfjcdeokaaDoorDkN
import Derived.Test.YtlkghcfjcdeokaaDoorDkF
import Derived.Test.YtlkghcfjcdeokaaDoorDkH
import Derived.Test.YtlkghcfjcdeokaaDoorDkI
import Derived.Test.YtlkghcfjcdeokaaDoorDkB
import Derived.Test.YtlkghcfjcdeokaaDoorDkO
namespace Go.Proofs.YtlkghcfjcdeokaaDoor
open Go.RowKit Go.Shelf

/-- The listed variables as they should be. -/
structure DInv (w : World) (aN aW aS : Addr) : Prop where
  s : SInv w
  n : NInv w aN aW aS
theorem DInv.below {w w' : World} {aN aW aS : Addr} (h : DInv w aN aW aS) (hb : Below w.heap.size w w') : DInv w' aN aW aS := ⟨h.s.below hb, h.n.below hb⟩

/-- What Bytes answers. -/
def DN.bytes (d : DN) (a n : Int) : ByteArray × Int := if d.down then (ByteArray.empty, 180) else cutV ⟨d.L.flatten.toArray⟩ a n
theorem DBytes_any {w : World} {p g : Nat} {d : DN} (at_ n : Int) (aN aW aS : Addr) (h : DAt w p g d) (hI : DInv w aN aW aS) (h0 : 0 < d.L.length) (hn1 : -9223372036854775808 ≤ n) (hn2 : n ≤ 9223372036854775807) :
    Calls Tryd.prog 21 #[.pointer (some ⟨p, 0, none⟩), .int .i64 at_, .int .i64 n] w (Ret (.tuple #[.string (d.bytes at_ n).1, .int .i64 (d.bytes at_ n).2]) w) := by
  cases hd : d.down with
  | true =>
    rw [DN.bytes, if_pos hd]
    exact DBytes_wr at_ n h hI.s hd
  | false =>
    rw [DN.bytes, if_neg (by rw [hd]; decide)]
    exact DBytes_ok at_ n aN aW aS h hI.n hd h0 hn1 hn2

/-- A disk of the call's own: all that the call's caller has stands. -/
structure Play (w0 : World) (p g : Nat) (d : DN) (w : World) : Prop where
  disk : DAt w p g d
  bel : Below w0.heap.size w0 w
  hp : w0.heap.size ≤ p
  hg : w0.heap.size ≤ g
  pos : 0 < d.L.length
theorem Play.below {w0 : World} {p g : Nat} {d : DN} {w w' : World} (h : Play w0 p g d w) (hb : Below w.heap.size w w') : Play w0 p g d w' := ⟨h.disk.below hb, h.bel.trans (hb.mono h.bel.size), h.hp, h.hg, h.pos⟩
theorem Play.but {w0 : World} {p g : Nat} {d d' : DN} {w w' : World} (h : Play w0 p g d w) (hd : DAt w' p g d') (hl : d'.L.length = d.L.length) (hb : But2 p g w w') : Play w0 p g d' w' :=
  ⟨hd, h.bel.trans (hb.below h.hp h.hg h.bel.size), h.hp, h.hg, by rw [hl]; exact h.pos⟩

/-- What a call does, and answers. -/
def DN.act (d : DN) (x : OI) : DN × ByteArray × Int :=
  if x.kind = 0 then ((d.write x.a x.s.data.toList).1, ByteArray.empty, (d.write x.a x.s.data.toList).2)
  else if x.kind = 1 then (d, ⟨(d.read x.a).1.toArray⟩, (d.read x.a).2)
  else if x.kind = 2 then (d, d.bytes x.a x.b)
  else if x.kind = 3 then ((d.arm x.a x.b).1, ByteArray.empty, (d.arm x.a x.b).2)
  else if x.kind = 4 then (d.restart, ByteArray.empty, 0)
  else (d, ByteArray.empty, 0)
theorem DN.act_fit {d : DN} (h : d.Fit) (x : OI) : (d.act x).1.Fit ∧ (d.act x).1.L.length = d.L.length ∧ (d.act x).1.n ≤ d.n + 1 := by
  unfold DN.act
  split
  · exact DN.write_fit h _ _
  · split
    · exact ⟨h, rfl, Nat.le_succ _⟩
    · split
      · exact ⟨h, rfl, Nat.le_succ _⟩
      · split
        · exact ⟨(DN.arm_fit h _ _).1, (DN.arm_fit h _ _).2.1, by rw [(DN.arm_fit h _ _).2.2]; omega⟩
        · split
          · exact ⟨(DN.restart_fit h).1, rfl, Nat.le_succ _⟩
          · exact ⟨h, rfl, Nat.le_succ _⟩
/-- A call's numbers are numbers. -/
structure OI.Ok (x : OI) : Prop where
  a : x.a ≤ 9223372036854775807
  b1 : -9223372036854775808 ≤ x.b
  b2 : x.b ≤ 9223372036854775807
/-- What do leaves. -/
def Done (w0 : World) (p g : Nat) (r : DN × ByteArray × Int) (e : Ending) (w' : World) : Prop := e = .returned (.tuple #[.string r.2.1, .int .i64 r.2.2]) ∧ Play w0 p g r.1 w'

set_option maxRecDepth 100000 in
set_option maxHeartbeats 2000000 in
theorem do_any {w0 w : World} {p g : Nat} {d : DN} {aN aW aS : Addr} (x : OI) (h : Play w0 p g d w) (hI : DInv w aN aW aS) (hn : d.n < 1000000) (hx : x.Ok) :
    Calls Tryd.prog 16 #[.pointer (some ⟨p, 0, none⟩), .agg #[.int .i64 x.kind, .int .i64 x.a, .int .i64 x.b, .string x.s]] w (Done w0 p g (d.act x)) := by
  obtain ⟨op, a, b, s⟩ := x
  obtain ⟨x1, x2, x3⟩ := hx
  dsimp only at x1 x2 x3 ⊢
  have hb := ext_new w (.cells #[.int .i64 op, .int .i64 a, .int .i64 b, .string s] 37)
  have h1 := h.below hb
  have hI1 := hI.below hb
  have h2 : Play w0 p g d (w.alloc (.cells #[.int .i64 op, .int .i64 a, .int .i64 b, .string s] 37)).drew := h1.below (ext_refl _).drew
  have hf := h.disk.fit
  have hW := Write_any a s h1.disk hI1.s hn
  have hR := Read_any a h1.disk hI1.s
  have hB := DBytes_any a b aN aW aS h1.disk hI1 h.pos x2 x3
  have hA := Arm_any a b h1.disk hI1.s x1
  have hS := Restart_any h1.disk
  have l1 := (DN.write_fit hf a s.data.toList).2.1
  have l2 := (DN.arm_fit hf a b).2.1
  have l3 := (DN.restart_fit hf).2.1
  by_cases k0 : op = 0
  · subst k0
    rw [DN.act, if_pos rfl]
    clear hR hB hA hS l2 l3
    generalize d.write a s.data.toList = r at *
    go_enter Tryd.func16, Tryd.ntmps16
    go_wp2_with fail
    refine hW.mono ?_
    rintro e w2 ⟨rfl, q1, q2⟩
    go_wp2_with fail
    go_ret2
    exact ⟨rfl, h1.but q1 l1 q2⟩
  · by_cases k1 : op = 1
    · subst k1
      rw [DN.act, if_neg k0, if_pos rfl]
      clear hW hB hA hS l1 l2 l3
      generalize d.read a = r at *
      go_enter Tryd.func16, Tryd.ntmps16
      go_wp2_with fail
      refine hR.mono ?_
      rintro e w2 ⟨rfl, q1⟩
      go_wp2_with fail
      go_ret2
      exact ⟨rfl, h1.below q1⟩
    · by_cases k2 : op = 2
      · subst k2
        rw [DN.act, if_neg k0, if_neg k1, if_pos rfl]
        clear hW hR hA hS l1 l2 l3
        generalize d.bytes a b = r at *
        go_enter Tryd.func16, Tryd.ntmps16
        go_wp2_with fail
        refine hB.mono ?_
        rintro e w2 ⟨rfl, q1⟩
        go_wp2_with fail
        go_ret2
        exact ⟨rfl, h1.below q1⟩
      · by_cases k3 : op = 3
        · subst k3
          rw [DN.act, if_neg k0, if_neg k1, if_neg k2, if_pos rfl]
          clear hW hR hB hS l1 l3
          generalize d.arm a b = r at *
          go_enter Tryd.func16, Tryd.ntmps16
          go_wp2_with fail
          refine hA.mono ?_
          rintro e w2 ⟨rfl, q1, q2⟩
          go_wp2_with fail
          go_ret2
          exact ⟨rfl, h1.but q1 l2 q2⟩
        · by_cases k4 : op = 4
          · subst k4
            rw [DN.act, if_neg k0, if_neg k1, if_neg k2, if_neg k3, if_pos rfl]
            clear hW hR hB hA l1 l2
            generalize d.restart = r at *
            go_enter Tryd.func16, Tryd.ntmps16
            go_wp2_with fail
            refine hS.mono ?_
            rintro e w2 ⟨rfl, q1, q2⟩
            go_wp2_with fail
            go_ret2
            exact ⟨rfl, h1.but q1 l3 q2⟩
          · rw [DN.act, if_neg k0, if_neg k1, if_neg k2, if_neg k3, if_neg k4]
            clear hW hR hB hA hS l1 l2 l3
            go_enter Tryd.func16, Tryd.ntmps16
            go_wp2_with fail
            go_ret2
            exact ⟨rfl, h1⟩

end Go.Proofs.YtlkghcfjcdeokaaDoor
