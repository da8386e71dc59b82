/-
  Package postriderlaw18: DiskPlays. Conditions: errors.errorType holds the handle of the type error ('SInv'); nums' listed variables hold different errors ('NInv').
-/
import Derived.Test.YtlkghcfjcdeokaaDoorDkR
import Derived.Test.YtlkghcfjcdeokaaDoorDkY
import Derived.Deep.QuietTactic
import Derived.BigQuiet
namespace Go.Proofs.YtlkghcfjcdeokaaDoor
open Go.RowKit Go.Shelf

theorem DAt.keep {w w' : World} {p g : Nat} {d : DN} (h : DAt w p g d) (h1 : w'.heap[p]? = w.heap[p]?) (h2 : w'.heap[g]? = w.heap[g]?) : DAt w' p g d := ⟨h.disk.kept h1, h.secs.kept h2, h.ne, h.fit, h.len, h.left, h.n⟩
theorem DAt.drewN {w : World} {p g : Nat} {d : DN} (h : DAt w p g d) (n : Nat) : DAt (w.drewN n) p g d := h.keep rfl rfl
theorem RAt.drewN {w : World} {p g c k : Nat} {d : DN} (h : RAt w p g c k d) (n : Nat) : RAt (w.drewN n) p g c k d := h.keep rfl rfl
theorem quiet_pure {f : FuncId} {args : Array Value} {w : World} {n : Nat} {v : Value} (h : Calls Tryd.prog f args (w.drewN n) (Pure v (w.drewN n))) : Calls Tryd.prog f args (w.drewN n) fun e w'' => e = .returned v ∧ ∃ m, w'' = w.drewN m :=
  h.mono fun _ _ ⟨he, hm⟩ => ⟨he, n, hm.symm⟩
/-- Two disks, side by side, and all that stood ahead of them. -/
structure Both (w0 : World) (B p g p' g' c k K j : Nat) (d : DN) (W : World) : Prop where
  one : DAt W p g d
  two : RAt W p' g' c k d
  bel : Below w0.heap.size w0 W
  hp : w0.heap.size ≤ p ∧ p < B
  hg : w0.heap.size ≤ g ∧ g < B
  hp' : B ≤ p'
  hg' : B ≤ g'
  len : d.L.length = K
  n : d.n ≤ j
theorem Both.go {w0 : World} {B p g p' g' c k K j : Nat} {d : DN} {W W1 W2 : World} (h : Both w0 B p g p' g' c k K j d W) (x : OI) (h1 : DAt W1 p g (d.act x).1) (b1 : But2 p g W W1) {k2 : Nat} (h2 : RAt W2 p' g' c k2 (d.act x).1) (b2 : But2 p' g' W1 W2) : Both w0 B p g p' g' c k2 K (j + 1) (d.act x).1 W2 := by
  obtain ⟨q1, q2, q3⟩ := DN.act_fit h.one.fit x
  have e1 := h.hp
  have e2 := h.hg
  have e3 := h.hp'
  have e4 := h.hg'
  refine ⟨h1.keep (b2.block _ h1.disk.lt (by omega) (by omega)) (b2.block _ h1.secs.lt (by omega) (by omega)), h2, ?_, h.hp, h.hg, h.hp', h.hg', q2.trans h.len, by have := h.n; omega⟩
  have c1 := h.bel.trans (b1.below h.hp.1 h.hg.1 h.bel.size)
  exact c1.trans (b2.below (by omega) (by omega) (Nat.le_trans h.bel.size b1.size))
theorem Both.drewN {w0 : World} {B p g p' g' c k K j : Nat} {d : DN} {W : World} (h : Both w0 B p g p' g' c k K j d W) (n : Nat) : Both w0 B p g p' g' c k K j d (W.drewN n) :=
  ⟨h.one.drewN n, h.two.drewN n, below_drewN' h.bel n, h.hp, h.hg, h.hp', h.hg', h.len, h.n⟩
theorem Both.two1 {w0 : World} {B p g p' g' c k K j : Nat} {d : DN} {W W1 : World} (h : Both w0 B p g p' g' c k K j d W) (b1 : But2 p g W W1) : RAt W1 p' g' c k d := by
  have e1 := h.hp
  have e2 := h.hg
  have e3 := h.hp'
  have e4 := h.hg'
  exact h.two.keep (b1.block _ h.two.disk.lt (by omega) (by omega)) (b1.block _ h.two.glt (by omega) (by omega))

set_option maxRecDepth 100000 in
set_option maxHeartbeats 4000000 in
theorem DiskPlays_any {w : World} {aN aW aS : Addr} (k : Int) (A : Option Addr) (n c : Nat) (xs : List OI) (hI : DInv w aN aW aS) (hx : OpsAt w A n xs) :
    Calls Tryd.prog 3 #[.int .i64 k, .slice A n c] w (Ret (.bool true) w) := by
  go_enter Tryd.func3, Tryd.ntmps3
  go_wp2_with fail
  refine (shown_any hI).mono ?_
  rintro e v1 ⟨rfl, b1⟩
  go_wp2_with fail
  refine (DCut_any A n c xs v1 hx.len (hx.rd.below b1) hx.sz).mono ?_
  rintro e v2 ⟨V, rfl, hown, b2⟩
  obtain ⟨hn, A', c', rfl, hrd⟩ := rdO_own hown
  have hok := cut_ok hx.ok
  have hl0 := hx.len
  have hlen : (xs.map OI.cut).length = xs.length := List.length_map ..
  rw [hn]
  generalize xs.map OI.cut = ys at *
  have hl : ys.length ≤ 40 := by omega
  have b2 := ext_trans b1 b2
  have hI2 := hI.below b2
  clear hown hx b1 hn hlen
  go_wp2_with fail
  by_cases hk : k < 1 ∨ 256 < k
  · refine (New_no k v2 hk).mono ?_
    rintro e v3 ⟨rfl, rfl⟩
    go_wp2_with fail
    refine (RNew_no k v2 hk).mono ?_
    rintro e v3 ⟨rfl, rfl⟩
    go_wp2_with fail
    refine (Read_nil 0 v2 hI2.s).mono ?_
    rintro e v3 ⟨rfl, b3⟩
    have hD := IsDown_nil v3
    have hS := Sectors_nil v3
    have b3 := ext_trans b2 b3
    go_wp2_with fail
    refine hD.mono ?_
    rintro e v4 ⟨rfl, rfl⟩
    go_wp2_with fail
    refine hS.mono ?_
    rintro e v4 ⟨rfl, rfl⟩
    go_wp2_with fail
    go_ret
    exact ⟨rfl, b3⟩
  · obtain ⟨K, rfl⟩ : ∃ K : Nat, k = (K : Int) := ⟨k.toNat, by omega⟩
    have k1 : 1 ≤ K := by omega
    have k2 : K ≤ 256 := by omega
    refine (New_ok K v2 k1 k2).mono ?_
    intro e v3 hN
    obtain ⟨p, g, rfl, h3⟩ := Play.of_new hN k1
    clear hN hk
    go_wp2_with fail
    refine (RNew_ok K v3 k1 k2).mono ?_
    rintro e v4 ⟨p', g', c2, rfl, hp', hg', h4, b4⟩
    have hlK : (DN.new K).L.length = K := by show (List.replicate K _).length = K; simp
    have hB : Both v2 v3.heap.size p g p' g' c2 0 K 0 (DN.new K) v4 := ⟨h3.disk.below b4, h4, h3.bel.trans (b4.mono h3.bel.size), ⟨h3.hp, h3.disk.disk.lt⟩, ⟨h3.hg, h3.disk.secs.lt⟩, hp', hg', hlK, Nat.le_refl _⟩
    clear h3 h4 b4 hlK hp' hg'
    generalize v3.heap.size = B at *
    generalize DN.new K = d0 at *
    go_wp2_with fail
    go_loopw [12] (fun i wr => ∃ (j : Nat) (d : DN) (k : Nat), j ≤ ys.length ∧ i = .int .i64 (j : Int) ∧ Both v2 B p g p' g' c2 k K j d wr) (fun i _ => ys.length - (intOf i).toNat)
    case atStart => exact ⟨0, _, _, by omega, rfl, hB⟩
    case round =>
      obtain ⟨j, d, kc, hj, rfl, hd⟩ := hrel
      by_cases hlt : j < ys.length
      · obtain ⟨q, rfl, hab, hca⟩ := hrd (by omega)
        obtain ⟨g1, g2, g3, g4⟩ := hca j hlt
        have hyo := hok _ (List.getElem_mem hlt)
        have hl0 : (q.add (j * 4)).block < v2.heap.size := by rw [add_blk]; exact hab
        have x1 := (hd.bel.cell hl0).trans g1
        have x2 := (hd.bel.cell (by exact hl0)).trans g2
        have x3 := (hd.bel.cell (by exact hl0)).trans g3
        have x4 := (hd.bel.cell (by exact hl0)).trans g4
        have i1 : (0 : Int) ≤ (j : Int) := by omega
        have i2 : (j : Int) < (ys.length : Int) := by omega
        have hD := do_but ys[j] hd.one (by rw [hd.len]; exact k1) (hI2.below hd.bel) (by have := hd.n; omega) hyo
        have hgo := fun (W1 W2 : World) (q1 : DAt W1 p g (d.act (ys[j]'hlt)).1) (q2 : But2 p g wr W1) (k2 : Nat) (q3 : RAt W2 p' g' c2 k2 (d.act (ys[j]'hlt)).1) (q4 : But2 p' g' W1 W2) => hd.go (ys[j]'hlt) q1 q2 q3 q4
        have htwo := fun (W1 : World) (q : But2 p g wr W1) => hd.two1 q
        have hWn := fun (W1 : World) (q : RAt W1 p' g' c2 kc d) => want_any (ys[j]'hlt) q (by have := hd.n; omega) hyo
        clear hca hrd hok
        generalize ys[j] = x at *
        go_wp2_with fail
        refine hD.mono ?_
        rintro e w4 ⟨rfl, hp4, hb4⟩
        have bel4 := hd.bel.trans (hb4.below hd.hp.1 hd.hg.1 hd.bel.size)
        have y1 := (bel4.cell hl0).trans g1
        have y2 := (bel4.cell (by exact hl0)).trans g2
        have y3 := (bel4.cell (by exact hl0)).trans g3
        have y4 := (bel4.cell (by exact hl0)).trans g4
        clear g1 g2 g3 g4 x1 x2 x3 x4 hD
        go_wp2_with fail
        refine (hWn _ (htwo _ hb4)).mono ?_
        rintro e w5 ⟨rfl, ⟨k5, hq5⟩, hb5⟩
        have hG := hgo _ _ hp4 hb4 _ hq5 hb5
        have hlen := hG.len
        obtain ⟨z0, z1, z2, z3, z4, -⟩ := hq5.disk.c5
        clear y1 y2 y3 y4 hWn htwo hgo hp4 hb4 hb5 hq5 hd
        generalize d.act x = r at *
        have hDn := fun n => IsDown_any (hG.one.drewN n)
        have hWs := fun n => Writes_any (hG.one.drewN n)
        have hSc := fun n => Sectors_any (hG.one.drewN n)
        rw [hlen] at hSc
        generalize r.1.down = bd at *
        generalize r.1.n = bn at *
        go_wp2_with fail
        go_quiet ((first | (go_at_call 14; exact quiet_pure (hDn _)) | (go_at_call 18; exact quiet_pure (hWs _)) | (go_at_call 15; exact quiet_pure (hSc _))))
        have hG2 := hG.drewN nq
        go_wp2_with fail
        go_roundw
        case rel => exact ⟨j + 1, _, _, by omega, by go_num, hG2⟩
        case measure => simp [intOf]; omega
      · obtain rfl : j = ys.length := by omega
        have hb := hd.bel
        clear hd hB
        go_wp2_with fail
        go_ret
        exact ⟨rfl, b2.trans (hb.mono b2.size)⟩

end Go.Proofs.YtlkghcfjcdeokaaDoor
