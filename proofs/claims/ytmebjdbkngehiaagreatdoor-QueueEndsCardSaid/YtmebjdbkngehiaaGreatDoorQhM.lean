/-
  How many writes a desk has made behind thirty calls. Plain lists, no program. No condition. A disk and a queue on it that a law has made: what its calls answer, and what stands behind them. Conditions: as the theorems' own hypotheses say. What all laws begin with (shown), as plain states tell it. No condition. What all laws begin with (shown). Conditions: the program's variables hold what GInv says. Made: a disk and a queue behind some calls. Conditions: the program's variables hold what GInv says; the calls' texts and numbers are such as a word can hold.
-/
import Derived.Test.YtmebjdbkngehiaaGreatDoorQgR
import Derived.Test.YtmebjdbkngehiaaGreatDoorQhL
namespace Go.Proofs.YtmebjdbkngehiaaGreatDoor

theorem dg_open {d : DN} {s : SN} (h : DG d s) : (openN d).s = s := by
  obtain ⟨l, h1, h2⟩ := h.ds.flag
  have hs := h1.tell.scan
  unfold openN; dsimp only; rw [hs]; exact h2
theorem dg_same {d : DN} {s t : SN} (h : DG d s) (h' : DG d t) : s = t := by rw [← dg_open h, dg_open h']
theorem new_count {d : DN} {s : SN} (h : DG d s) (hd : d.down = false) : (newN d).1.n ≤ d.n + s.K.length * (2 * d.L.length + 2) := by
  obtain ⟨h1, h2⟩ := open_law h.ds h.ok hd
  have hop : (openN d).d = d := rfl
  have hl := drops_law _ (openN d) h1 (by rw [h2, hop]; exact h.rm) rfl
  have h60 : (lostL (openN d).s.L).length ≤ s.K.length := by
    rw [h2]
    have := h.ok.sub.length_le
    rw [List.length_map] at this
    exact Nat.le_trans (List.length_filter_le _ _) this
  unfold newN
  rw [if_neg (by rw [hd]; decide), if_neg (by have := h.nine; omega)]
  rw [hop, h2] at hl
  rw [h2] at h60 ⊢
  have hm : (lostL s.L).length * (2 * d.L.length + 2) ≤ s.K.length * (2 * d.L.length + 2) := Nat.mul_le_mul_right _ h60
  split
  · exact Nat.le_trans hl.2.1 (by omega)
  · exact Nat.le_trans hl.2.1 (by omega)
/-- At most so many keys, numbered one by one. -/
def SN.Few (s : SN) (j : Nat) : Prop := s.K.length ≤ j ∧ s.next ≤ (j : Int) + 1
theorem SN.Few.up {s : SN} {j : Nat} (h : s.Few j) : s.Few (j + 1) := ⟨Nat.le_succ_of_le h.1, by have := h.2; omega⟩
theorem SN.Few.of_K {s t : SN} {j : Nat} (h : s.Few j) (he : t.K = s.K) : t.Few j := by
  unfold SN.Few SN.next at h ⊢
  rw [he]; exact h
/-- Keys and writes behind some calls. -/
structure KB (j : Nat) (k : KN) : Prop where
  keys : ∀ s, DG k.d s → s.Few j
  n : k.d.n ≤ j * 16000
theorem kb_new {j : Nat} {d : DN} {s : SN} (h : DG d s) (hd : d.down = false) (hm : d.L.length ≤ 256) (hs : s.Few j) (hj : j ≤ 30) (hn : d.n ≤ j * 16000) : KB (j + 1) (KN.new d).1 := by
  have hc := new_count h hd
  have h0 : s.K.length * (2 * d.L.length + 2) ≤ 30 * 514 := Nat.mul_le_mul (Nat.le_trans hs.1 hj) (by omega)
  obtain ⟨n1, -, n2⟩ := new_law h hd
  refine ⟨fun t ht => ?_, ?_⟩
  · have ht' : DG (newN d).1 t := ht
    rcases n2 with ⟨q, q1, q2, q3, q4, q5, -⟩ | ⟨q1, q2, q3, q4, s', q5, q6, -⟩
    · rw [q2] at ht'
      rw [dg_same ht' q4.dg, q5]
      exact SN.Few.of_K hs.up rfl
    · rw [dg_same ht' q5]
      exact SN.Few.of_K hs.up q6
  · show (newN d).1.n ≤ _
    omega
theorem next_snoc (L : List EI) (s : SN) (t : ByteArray) : (SN.mk L (s.K ++ [⟨s.next, t⟩])).next = s.next + 1 := by
  unfold SN.next
  rw [List.foldl_append]
  show max _ (_ + 1) + 1 = _
  omega
theorem put_keys (k : Nat) {s : SN} (e : EI) {j : Nat} (h : s.Few j) : (SN.put k s e).1.Few (j + 1) := by
  unfold SN.put
  split
  · exact h.up
  · split
    · exact h.up
    · split
      · exact h.up
      · refine ⟨?_, ?_⟩
        · show (s.K ++ [_]).length ≤ _
          rw [List.length_append]
          exact Nat.add_le_add_right h.1 1
        · show (SN.mk _ (s.K ++ [⟨s.next, e.key⟩])).next ≤ _
          rw [next_snoc]
          have := h.2
          omega
theorem became_keys {s : SN} {op : Int} (h : op = 2 ∨ op = 3 ∨ op = 4) (id : Int) {j : Nat} (hs : s.Few j) : (s.became op id).1.Few (j + 1) := by
  unfold SN.became
  split
  · exact hs.up
  · split
    · exact hs.up
    · exact SN.Few.of_K hs.up (tell_K (by show op ≠ 1; omega) (by show op ≠ 5; omega))
theorem call_keys (k : Nat) {s : SN} {x : QO} (hx : 0 ≤ x.kind ∧ x.kind ≤ 3) {j : Nat} (h : s.Few j) : (SN.call k s x).1.Few (j + 1) := by
  unfold SN.call
  split
  · exact put_keys k x.e h
  · exact became_keys (by omega) x.a h
set_option maxRecDepth 10000 in
theorem kb_act {m j : Nat} {k : KN} (h : KG m k) (hm : m ≤ 256) (hb : KB j k) (hj : j ≤ 30) (x : QO) : KB (j + 1) (k.act x).1 := by
  obtain ⟨s, hs⟩ := kg_dg h
  have hK := hb.keys s hs
  have hn := hb.n
  have hsame : KB (j + 1) k := ⟨fun t ht => by rw [dg_same ht hs]; exact hK.up, Nat.le_trans hn (Nat.mul_le_mul_right _ (Nat.le_succ j))⟩
  have hl := h.len
  unfold KN.act
  split
  · exact hsame
  · split
    · cases hq : k.q with
      | none => exact hsame
      | some q =>
        have hd := h.on q hq
        rcases h.good with ⟨q', q1, q2⟩ | ⟨q', q1, q2, q3, s', q4⟩ | ⟨q1, -⟩
        · rw [hq] at q1
          injection q1 with q1
          subst q1
          obtain ⟨c1, c2, c3⟩ := call_law q2 (x := x) (by omega)
          rw [hd, hl] at c2
          have hqs : q.s = s := dg_same (by rw [← hd]; exact q2.dg) hs
          have hn2 : (q.call x).1.d.n ≤ (j + 1) * 16000 := by omega
          refine ⟨fun t ht => ?_, hn2⟩
          have ht' : DG (q.call x).1.d t := ht
          rcases c3 with ⟨e1, e2, e3, e4⟩ | ⟨e1, e2, e3, e4, e5, e6⟩
          · rw [dg_same ht' e2.dg, e3]
            rw [hqs]; exact call_keys _ (by omega) hK
          · rcases e6 with e6 | e6
            · rw [dg_same ht' e6, hqs]; exact hK.up
            · rw [dg_same ht' e6]
              rw [hqs]; exact call_keys _ (by omega) hK
        · rw [hq] at q1
          injection q1 with q1
          subst q1
          dsimp only
          rw [call_down q2]
          have hn2 : q.d.n ≤ (j + 1) * 16000 := by rw [hd]; exact Nat.le_trans hn (Nat.mul_le_mul_right _ (Nat.le_succ j))
          refine ⟨fun t ht => ?_, hn2⟩
          have ht' : DG k.d t := by rw [← hd]; exact ht
          rw [dg_same ht' hs]; exact hK.up
        · rw [hq] at q1; cases q1
    · split
      · obtain ⟨a1, a2, a3⟩ := dg_arm hs x.a x.b
        refine ⟨fun t ht => ?_, ?_⟩
        · have ht' : DG (k.d.arm x.a x.b).1 t := ht
          rw [dg_same ht' a1]; exact hK.up
        · show (k.d.arm x.a x.b).1.n ≤ _
          have : (k.d.arm x.a x.b).1.n = k.d.n := by unfold DN.arm; split <;> rfl
          omega
      · obtain ⟨r1, r2, r3⟩ := dg_restart hs
        have hrl : k.d.restart.L.length ≤ 256 := by show k.d.L.length ≤ 256; omega
        split
        · exact kb_new r1 r2 hrl hK hj hn
        · obtain ⟨a1, a2, a3⟩ := dg_arm r1 x.a x.b
          have : (k.d.restart.arm x.a x.b).1.n = k.d.n := by unfold DN.arm; split <;> rfl
          exact kb_new a1 (by rw [a2]; exact r2) (by rw [a3]; exact hrl) hK hj (by omega)
theorem new_empty {m : Nat} (h : 9 ≤ m) : ∃ q, (newN (DN.new m)).2.1 = some q ∧ (newN (DN.new m)).1 = q.d ∧ (newN (DN.new m)).2.2 = ([], 0) ∧ QG q ∧ q.s = SN.nil ∧ q.d = DN.new m := by
  have hg := new_dg h
  have hs : (openN (DN.new m)).s = SN.nil := dg_open hg
  obtain ⟨-, -, n2⟩ := new_law hg rfl
  rcases n2 with ⟨q, q1, q2, q3, q4, q5, q6⟩ | ⟨q1, q2, q3, q4, -⟩
  · refine ⟨q, q1, q2, q3, q4, q5, ?_⟩
    rw [← q2]
    unfold newN
    rw [if_neg (fun e => by cases e), if_neg (by have := hg.nine; omega), hs]
    rfl
  · exact absurd rfl q4
theorem kb_first {m : Nat} (h : 9 ≤ m) : KB 0 (KN.new (DN.new m)).1 := by
  obtain ⟨q, q1, q2, q3, q4, q5, q6⟩ := new_empty h
  have hd : (KN.new (DN.new m)).1.d = DN.new m := by show (newN (DN.new m)).1 = _; rw [q2, q6]
  refine ⟨fun t ht => ?_, by rw [hd]; exact Nat.zero_le _⟩
  rw [hd] at ht
  rw [dg_same ht (new_dg h)]
  exact ⟨Nat.le_refl _, by decide⟩
theorem kb_acts {m : Nat} (hm : m ≤ 256) (l : List QO) : ∀ (j : Nat) (k : KN), KG m k → KB j k → j + l.length ≤ 31 → KB (j + l.length) (k.acts l) := by
  induction l with
  | nil => exact fun j k _ h _ => h
  | cons x l ih =>
    intro j k hk hb hj
    rw [List.length_cons] at hj ⊢
    have := ih (j + 1) (k.act x).1 (kg_act hk x) (kb_act hk hm hb (by omega) x) (by omega)
    rw [show j + (l.length + 1) = j + 1 + l.length by omega]
    exact this
theorem ks_n {m : Nat} (hm : m < 9) {k : KN} (h : KS m k) (x : QO) : (k.act x).1.d.n = k.d.n := by
  obtain ⟨h1, h2, h3⟩ := h
  unfold KN.act
  split
  · rfl
  · split
    · rw [h2]
    · split
      · show (k.d.arm x.a x.b).1.n = _
        unfold DN.arm; split <;> rfl
      · split
        · unfold KN.new
          rw [new_small (by show k.d.L.length < 9; omega) rfl]
          rfl
        · have hL : (k.d.restart.arm x.a x.b).1.L = k.d.L := by unfold DN.arm; split <;> rfl
          have hd : (k.d.restart.arm x.a x.b).1.down = false := by unfold DN.arm; split <;> rfl
          unfold KN.new
          rw [new_small (by rw [hL]; omega) hd]
          show (k.d.restart.arm x.a x.b).1.n = _
          unfold DN.arm; split <;> rfl
theorem ks_acts {m : Nat} (hm : m < 9) : ∀ (l : List QO) (k : KN), KS m k → KS m (k.acts l) ∧ (k.acts l).d.n = k.d.n := by
  intro l
  induction l with
  | nil => exact fun k h => ⟨h, rfl⟩
  | cons x l ih =>
    intro k hk
    obtain ⟨a, b⟩ := ih _ (ks_act hm hk x)
    exact ⟨a, by rw [← ks_n hm hk x]; exact b⟩
theorem ks_first {m : Nat} (h : m < 9) : KS m (KN.new (DN.new m)).1 ∧ (KN.new (DN.new m)).1.d.n = 0 := by
  unfold KN.new
  rw [new_small (by show (List.replicate m _).length < 9; simpa using h) rfl]
  exact ⟨⟨by show (List.replicate m _).length = m; simp, rfl, rfl⟩, rfl⟩
/-- Writes behind at most thirty calls. -/
theorem desk_n {m : Nat} (hm : m ≤ 256) {l : List QO} (hl : l.length ≤ 30) : (deskN m l).d.n ≤ 480000 := by
  unfold deskN
  by_cases h : 9 ≤ m
  · have := (kb_acts hm l 0 _ (kg_new (new_dg h) (by show (List.replicate m _).length = m; simp) h rfl) (kb_first h) (by omega)).n
    omega
  · obtain ⟨a, b⟩ := ks_first (m := m) (by omega)
    have := (ks_acts (by omega) l _ a).2
    omega
theorem made_n {m : Nat} (hm : m ≤ 256) {l : List QO} (hl : l.length ≤ 30) : (madeN m l).1.n ≤ 496000 := by
  have hn := desk_n hm hl
  unfold madeN
  by_cases h : 9 ≤ m
  · have hk := desk_kg h l
    obtain ⟨s, hs⟩ := kg_dg hk
    obtain ⟨r1, r2, r3⟩ := dg_restart hs
    have hb := kb_acts hm l 0 _ (kg_new (new_dg h) (by show (List.replicate m _).length = m; simp) h rfl) (kb_first h) (by omega)
    have hK := hb.keys s hs
    have hc := new_count r1 r2
    have hlen : (deskN m l).d.restart.L.length = m := hk.len
    have h0 : s.K.length * (2 * (deskN m l).d.restart.L.length + 2) ≤ 30 * 514 := Nat.mul_le_mul (by have := hK.1; omega) (by omega)
    have hr : (deskN m l).d.restart.n = (deskN m l).d.n := rfl
    omega
  · obtain ⟨a, b⟩ := ks_first (m := m) (by omega)
    obtain ⟨c1, c2⟩ := ks_acts (by omega) l _ a
    have c3 : (deskN m l).d.n = 0 := by unfold deskN; omega
    rw [new_small (by show (deskN m l).d.L.length < 9; rw [show (deskN m l).d.L.length = m from c1.len]; omega) rfl]
    show (deskN m l).d.n ≤ _
    omega

/-- Numbers stay small behind at most thirty calls. -/
theorem made_few {m : Nat} (hm : m ≤ 256) (h : 9 ≤ m) {l : List QO} (hl : l.length ≤ 30) {q : QN} (hq : (madeN m l).2.1 = some q) : q.s.Few 30 := by
  have hk := desk_kg h l
  obtain ⟨s, hs⟩ := kg_dg hk
  obtain ⟨r1, r2, r3⟩ := dg_restart hs
  have hb := kb_acts hm l 0 _ (kg_new (new_dg h) (by show (List.replicate m _).length = m; simp) h rfl) (kb_first h) (by omega)
  have hK := hb.keys s hs
  have hK30 : s.Few 30 := ⟨by have := hK.1; omega, by have := hK.2; omega⟩
  obtain ⟨-, -, n2⟩ := new_law r1 r2
  rcases n2 with ⟨q', q1, -, -, -, q5, -⟩ | ⟨q1, -⟩
  · have e : some q' = some q := q1.symm.trans hq
    injection e with e
    rw [← e, q5]
    exact SN.Few.of_K hK30 rfl
  · have e : none = some q := q1.symm.trans hq
    cases e

end Go.Proofs.YtmebjdbkngehiaaGreatDoor

namespace Go.Proofs.YtmebjdbkngehiaaGreatDoor
open Go.RowKit Go.Shelf

theorem below_foot {n : Nat} {F : Nat → Prop} {a b c : World} (h : Below n a b) (hf : Foot F b c) (hF : ∀ j, F j → n ≤ j) (hn : n ≤ b.heap.size) : Below n a c :=
  ⟨hf.os.trans h.os, hf.tape.trans h.tape, hf.output.trans h.output, Nat.le_trans h.size hf.size, fun j hj => (hf.block j (Nat.lt_of_lt_of_le hj hn) fun q => absurd (hF j q) (by omega)).trans (h.block j hj)⟩
theorem glb_below {F : Nat → Prop} {w w1 : World} {aA aT aN aW aS : Addr} (hI : GInv w aA aT aN aW aS) (hb : Below w.heap.size w w1) (hF : ∀ j, F j → w.heap.size ≤ j) : Glb F aA aT aN aW aS w1 :=
  fun _ hf => hI.below (below_foot hb hf hF hb.size)
/-- A disk and a queue that lie in new blocks. -/
structure QPlay (w : World) (p g : Nat) (o : Option (QC × QV)) (k : KN) (w' : World) : Prop where
  at_ : PairAt w' p g o k
  bel : Below w.heap.size w w'
  new_ : ∀ j, KF o p g j → w.heap.size ≤ j
theorem QPlay.ext {w w1 w2 : World} {p g : Nat} {o : Option (QC × QV)} {k : KN} (h : QPlay w p g o k w1) (hb : Below w1.heap.size w1 w2) : QPlay w p g o k w2 :=
  ⟨h.at_.below hb, ext_trans h.bel hb, h.new_⟩
theorem QPlay.went {w w1 w2 : World} {p g : Nat} {o o2 : Option (QC × QV)} {k k2 : KN} (h : QPlay w p g o k w1) (hw : PairWent w1 p g o k2 o2 w2) : QPlay w p g o2 k2 w2 :=
  ⟨hw.at_, below_foot h.bel hw.foot h.new_ h.bel.size, fun j hj => (hw.new_ j hj).elim (h.new_ j) fun q => Nat.le_trans h.bel.size q⟩
theorem QPlay.glb {w w1 : World} {p g : Nat} {o : Option (QC × QV)} {k : KN} {aA aT aN aW aS : Addr} (h : QPlay w p g o k w1) (hI : GInv w aA aT aN aW aS) : Glb (KF o p g) aA aT aN aW aS w1 :=
  glb_below hI h.bel h.new_
theorem QPlay.back {w w0 w1 : World} {p g : Nat} {o : Option (QC × QV)} {k : KN} (h : QPlay w0 p g o k w1) (hb : Below w.heap.size w w0) : QPlay w p g o k w1 :=
  ⟨h.at_, ext_trans hb h.bel, fun j hj => Nat.le_trans hb.size (h.new_ j hj)⟩
theorem QPlay.of_new {m : Nat} {w : World} {e : Ending} {w' : World} (h : NewRes m w e w') (hm : 0 < m) : ∃ p g, e = .returned (.tuple #[.pointer (some ⟨p, 0, none⟩), .int .i64 0]) ∧ QPlay w p g none ⟨DN.new m, none⟩ w' := by
  obtain ⟨p, g, he, h1, h2, h3, h4⟩ := h
  refine ⟨p, g, he, ⟨h3, by show 0 < (List.replicate m _).length; rw [List.length_replicate]; exact hm, fun _ => rfl, fun q hq => (by cases hq)⟩, h4, fun j hj => ?_⟩
  rcases (kf_none p g j).1 hj with rfl | rfl
  · exact h1
  · exact h2
theorem PairAt.turn {w1 w2 : World} {p g : Nat} {o : Option (QC × QV)} {k : KN} {d : DN} (h : PairAt w1 p g o k) (hd : DAt w2 p g d) (hb : But2 p g w1 w2) (hl : d.L.length = k.d.L.length) : PairWent w1 p g o ⟨d, none⟩ none w2 :=
  ⟨⟨hd, by show 0 < d.L.length; rw [hl]; exact h.pos, fun _ => rfl, fun q hq => (by cases hq)⟩, ⟨hb.os, hb.tape, hb.output, hb.size, fun j hj hn => hb.block j hj (fun e => hn (.inl e)) (fun e => hn (.inr (.inl e)))⟩, fun j hj => .inl (KF.two ((kf_none p g j).1 hj))⟩
/-- A new queue on the disk. -/
theorem play_new {w w1 : World} {p g : Nat} {o : Option (QC × QV)} {k : KN} {aA aT aN aW aS : Addr} (h : QPlay w p g o k w1) (hI : GInv w aA aT aN aW aS) (hn : k.d.n ≤ 950000) :
    Calls Tryz.prog 31 #[.pointer (some ⟨p, 0, none⟩)] w1 fun e w' => ∃ o' lv, e = .returned (.tuple #[qPtr o', lv, .int .i64 (newN k.d).2.2.2]) ∧ w'.ownsRow w1.heap.size 23 7 lv (newN k.d).2.2.1.length (cellsE (newN k.d).2.2.1) ∧ PairWent w1 p g o ⟨(newN k.d).1, (newN k.d).2.1⟩ o' w' := by
  refine (new_on (h.glb hI) (Foot.refl _ _) h.at_.disk hn (newN_pos h.at_.disk.fit h.at_.pos)).mono ?_
  rintro e w' ⟨o', lv, he, ho, hw⟩
  exact ⟨o', lv, he, ho, hw⟩
theorem play_restart {w w1 : World} {p g : Nat} {o : Option (QC × QV)} {k : KN} (h : QPlay w p g o k w1) :
    Calls Tryz.prog 37 #[.pointer (some ⟨p, 0, none⟩)] w1 fun e w' => e = .returned (.int .i64 0) ∧ PairWent w1 p g o ⟨k.d.restart, none⟩ none w' := by
  refine (Restart_any h.at_.disk).mono ?_
  rintro e w' ⟨he, hd, hb⟩
  exact ⟨he, h.at_.turn hd hb rfl⟩
theorem play_put {w w1 : World} {p g : Nat} {o : Option (QC × QV)} {k : KN} {aA aT aN aW aS : Addr} (x : QO) (hx : x.kind = 0) (h : QPlay w p g o k w1) (hI : GInv w aA aT aN aW aS) (hok : x.Ok) (hn : k.d.n ≤ 950000) :
    Calls Tryz.prog 39 #[qPtr o, x.e.val] w1 fun ev w' => ev = .returned (.tuple #[.int .i64 (k.act x).2.n, .int .i64 (k.act x).2.err]) ∧ ∃ o', PairWent w1 p g o (k.act x).1 o' w' ∧ qPtr o' = qPtr o := by
  refine (pair_put x hx h.at_ (h.glb hI) hok (by omega)).mono ?_
  rintro e w' ⟨he, o', hw, ho⟩
  exact ⟨he, o', hw, ho⟩
theorem play_sent {w w1 : World} {p g : Nat} {o : Option (QC × QV)} {k : KN} {aA aT aN aW aS : Addr} (x : QO) (hx : x.kind = 1) (h : QPlay w p g o k w1) (hI : GInv w aA aT aN aW aS) (hn : k.d.n ≤ 950000) :
    Calls Tryz.prog 38 #[qPtr o, .int .i64 x.a] w1 fun ev w' => ev = .returned (.int .i64 (k.act x).2.err) ∧ ∃ o', PairWent w1 p g o (k.act x).1 o' w' ∧ qPtr o' = qPtr o := by
  refine (pair_sent x hx h.at_ (h.glb hI) (by omega)).mono ?_
  rintro e w' ⟨he, -, o', hw, ho⟩
  exact ⟨he, o', hw, ho⟩
theorem play_done {w w1 : World} {p g : Nat} {o : Option (QC × QV)} {k : KN} {aA aT aN aW aS : Addr} (x : QO) (hx : x.kind = 2) (h : QPlay w p g o k w1) (hI : GInv w aA aT aN aW aS) (hn : k.d.n ≤ 950000) :
    Calls Tryz.prog 32 #[qPtr o, .int .i64 x.a] w1 fun ev w' => ev = .returned (.int .i64 (k.act x).2.err) ∧ ∃ o', PairWent w1 p g o (k.act x).1 o' w' ∧ qPtr o' = qPtr o := by
  refine (pair_done x hx h.at_ (h.glb hI) (by omega)).mono ?_
  rintro e w' ⟨he, -, o', hw, ho⟩
  exact ⟨he, o', hw, ho⟩
theorem play_drop {w w1 : World} {p g : Nat} {o : Option (QC × QV)} {k : KN} {aA aT aN aW aS : Addr} (x : QO) (hx : x.kind = 3) (h : QPlay w p g o k w1) (hI : GInv w aA aT aN aW aS) (hn : k.d.n ≤ 950000) :
    Calls Tryz.prog 33 #[qPtr o, .int .i64 x.a] w1 fun ev w' => ev = .returned (.int .i64 (k.act x).2.err) ∧ ∃ o', PairWent w1 p g o (k.act x).1 o' w' ∧ qPtr o' = qPtr o := by
  refine (pair_drop x hx h.at_ (h.glb hI) (by omega)).mono ?_
  rintro e w' ⟨he, -, o', hw, ho⟩
  exact ⟨he, o', hw, ho⟩
theorem play_arm {w w1 : World} {p g : Nat} {o : Option (QC × QV)} {k : KN} {aA aT aN aW aS : Addr} (a b : Int) (h : QPlay w p g o k w1) (hI : GInv w aA aT aN aW aS) (ha : a ≤ 9223372036854775807) :
    Calls Tryz.prog 35 #[.pointer (some ⟨p, 0, none⟩), .int .i64 a, .int .i64 b] w1 fun ev w' => ev = .returned (.int .i64 (k.d.arm a b).2) ∧ ∃ o', PairWent w1 p g o (k.act (QO.mk 4 a b EI.nil)).1 o' w' ∧ qPtr o' = qPtr o := by
  refine (pair_arm a b EI.nil h.at_ (h.glb hI) ha).mono ?_
  rintro e w' ⟨he, -, o', hw, ho⟩
  exact ⟨he, o', hw, ho⟩
/-- A queue that is there. -/
theorem PairAt.some {w : World} {p g : Nat} {o : Option (QC × QV)} {d : DN} {q : QN} (h : PairAt w p g o ⟨d, some q⟩) : ∃ c v, o = some (c, v) ∧ SAt w c v q.s ∧ q.s.Ok ∧ q.d = d := by
  obtain ⟨c, v, q', h1, h2, h3, h4, h5⟩ := h.some_ q rfl
  exact ⟨c, v, h1, by rw [← h2.s]; exact h4.st, h3.ok, h5⟩
theorem play_entries {w : World} {p g : Nat} {o : Option (QC × QV)} {d : DN} {q : QN} (h : PairAt w p g o ⟨d, some q⟩) :
    Calls Tryz.prog 22 #[qPtr o] w fun e w' => ∃ V', e = .returned V' ∧ w'.ownsRow w.heap.size 23 7 V' q.s.L.length (cellsE q.s.L) ∧ Below w.heap.size w w' := by
  obtain ⟨c, v, rfl, hs, hok, -⟩ := h.some
  exact entries_any hs (by have := hok.len; omega)
theorem play_keys {w : World} {p g : Nat} {o : Option (QC × QV)} {d : DN} {q : QN} (h : PairAt w p g o ⟨d, some q⟩) :
    Calls Tryz.prog 25 #[qPtr o] w fun e w' => ∃ V', e = .returned V' ∧ w'.ownsRow w.heap.size 9 1 V' q.s.K.length ((txtsOf q.s.K).map (.string ·)) ∧ Below w.heap.size w w' := by
  obtain ⟨c, v, rfl, hs, hok, -⟩ := h.some
  exact keys_any hs (by have := hok.most; omega)
theorem play_knows {w : World} {p g : Nat} {o : Option (QC × QV)} {d : DN} {q : QN} (t : ByteArray) (h : PairAt w p g o ⟨d, some q⟩) :
    Calls Tryz.prog 30 #[qPtr o, .string t] w (Pure (.bool (q.s.knows t)) w) := by
  obtain ⟨c, v, rfl, hs, hok, -⟩ := h.some
  exact knows_any t hs (by have := hok.most; omega)
theorem play_find {w : World} {p g : Nat} {o : Option (QC × QV)} {d : DN} {q : QN} (id : Int) (h : PairAt w p g o ⟨d, some q⟩) :
    Calls Tryz.prog 29 #[qPtr o, .int .i64 id] w (Ret (.tuple #[(q.s.find id).1.val, .bool (q.s.find id).2]) w) := by
  obtain ⟨c, v, rfl, hs, hok, -⟩ := h.some
  exact find_any id hs (by have := hok.len; omega)
theorem qptr_some {w : World} {p g : Nat} {o : Option (QC × QV)} {d : DN} {q : QN} (h : PairAt w p g o ⟨d, some q⟩) : ∃ b, qPtr o = .pointer (some ⟨b, 0, none⟩) := by
  obtain ⟨c, v, rfl, -⟩ := h.some
  exact ⟨c.b, rfl⟩

end Go.Proofs.YtmebjdbkngehiaaGreatDoor

namespace Go.Proofs.YtmebjdbkngehiaaGreatDoor
open Go.RowKit Go.Shelf

/-- A call of a queue whose power stays, as the pair sees it. -/
theorem calm_act {q : QN} (h : QG q) (hl : q.d.left = 0) {x : QO} (hx : 0 ≤ x.kind ∧ x.kind ≤ 3) : ∃ q', KN.act ⟨q.d, some q⟩ x = (⟨q'.d, some q'⟩, ⟨(SN.call q.d.L.length q.s x).2.1, [], (SN.call q.d.L.length q.s x).2.2⟩) ∧ QG q' ∧ q'.s = (SN.call q.d.L.length q.s x).1 ∧ q'.d.left = 0 ∧ q'.d.L.length = q.d.L.length ∧ q'.d.n ≤ q.d.n + (2 * q.d.L.length + 2) := by
  obtain ⟨c1, c2, c3, c4, c5⟩ := calm_law h hl hx
  refine ⟨(q.call x).1, ?_, c2, c3, c4, c5, (call_law h hx).2.1⟩
  rw [act_some (q := q) hx.1 hx.2 rfl, ← c1]
/-- The entry that is shown. -/
def shX : EI := ⟨0, 7, ⟨#[97]⟩, ⟨#[104, 105]⟩, 5, false, false⟩
def shS : EI := ⟨1, 7, ⟨#[97]⟩, ⟨#[104, 105]⟩, 5, false, true⟩
def shK : List KI := [⟨1, ⟨#[97]⟩⟩]
theorem shq1 : SN.call 20 SN.nil ⟨0, 0, 0, shX⟩ = (⟨[shX.num 1], shK⟩, 1, 0) := by kernel_rfl
theorem shq2 : SN.call 20 ⟨[shX.num 1], shK⟩ ⟨0, 0, 0, shX⟩ = (⟨[shX.num 1], shK⟩, 0, 192) := by kernel_rfl
theorem shq3 : SN.call 20 ⟨[shX.num 1], shK⟩ ⟨1, 1, 0, EI.nil⟩ = (⟨[shS], shK⟩, 0, 0) := by kernel_rfl
theorem shq4 : SN.call 20 ⟨[shS], shK⟩ ⟨2, 2, 0, EI.nil⟩ = (⟨[shS], shK⟩, 0, 193) := by kernel_rfl
theorem sh_law : ∃ q0 q1 q2 q3 q4 r, newN (DN.new 20) = (q0.d, some q0, [], 0) ∧ KN.act ⟨q0.d, some q0⟩ ⟨0, 0, 0, shX⟩ = (⟨q1.d, some q1⟩, ⟨1, [], 0⟩) ∧ KN.act ⟨q1.d, some q1⟩ ⟨0, 0, 0, shX⟩ = (⟨q2.d, some q2⟩, ⟨0, [], 192⟩) ∧ KN.act ⟨q2.d, some q2⟩ ⟨1, 1, 0, EI.nil⟩ = (⟨q3.d, some q3⟩, ⟨0, [], 0⟩) ∧ KN.act ⟨q3.d, some q3⟩ ⟨2, 2, 0, EI.nil⟩ = (⟨q4.d, some q4⟩, ⟨0, [], 193⟩) ∧ newN q4.d = (r.d, some r, [shS], 0) ∧ r.s.L = [] ∧ r.s.knows ⟨#[97]⟩ = true ∧
    q0.d.n ≤ 950000 ∧ q1.d.n ≤ 950000 ∧ q2.d.n ≤ 950000 ∧ q3.d.n ≤ 950000 ∧ q4.d.n ≤ 950000 := by
  obtain ⟨q0, a1, a2, a3, a4, a5, a6⟩ := new_empty (m := 20) (by omega)
  have hl0 : q0.d.L.length = 20 := by rw [a6]; rfl
  have hn0 : q0.d.n = 0 := by rw [a6]; rfl
  obtain ⟨q1, b1, b2, b3, b4, b5, b6⟩ := calm_act (x := ⟨0, 0, 0, shX⟩) a4 (by rw [a6]; rfl) (by decide)
  rw [a5, hl0, shq1] at b1 b3
  rw [hl0] at b5 b6
  obtain ⟨q2, c1, c2, c3, c4, c5, c6⟩ := calm_act (x := ⟨0, 0, 0, shX⟩) b2 b4 (by decide)
  rw [b3, b5, shq2] at c1 c3
  rw [b5] at c5 c6
  obtain ⟨q3, d1, d2, d3, d4, d5, d6⟩ := calm_act (x := ⟨1, 1, 0, EI.nil⟩) c2 c4 (by decide)
  rw [c3, c5, shq3] at d1 d3
  rw [c5] at d5 d6
  obtain ⟨q4, e1, e2, e3, e4, e5, e6⟩ := calm_act (x := ⟨2, 2, 0, EI.nil⟩) d2 d4 (by decide)
  rw [d3, d5, shq4] at e1 e3
  rw [d5] at e5 e6
  obtain ⟨r, f1, f2, f3, f4, f5, -⟩ := again_law e2 e4
  rw [e3] at f3 f5
  refine ⟨q0, q1, q2, q3, q4, r, ?_, b1, c1, d1, e1, ?_, by rw [f5]; kernel_rfl, by rw [f5]; kernel_rfl, by omega, by omega, by omega, by omega, by omega⟩
  · rw [← a1, ← a2, ← a3]
  · rw [← f1, ← f2, show ([shS], (0 : Int)) = (newN q4.d).2.2 from f3.symm]

end Go.Proofs.YtmebjdbkngehiaaGreatDoor

namespace Go.Proofs.YtmebjdbkngehiaaGreatDoor
open Go.RowKit Go.Shelf

set_option maxRecDepth 100000 in
set_option maxHeartbeats 8000000 in
theorem shown_any {w : World} {aA aT aN aW aS : Addr} (hI : GInv w aA aT aN aW aS) : Calls Tryz.prog 13 #[] w (Ret (.bool true) w) := by
  obtain ⟨q0, q1, q2, q3, q4, r, a0, a1, a2, a3, a4, a5, a6, a7, n0, n1, n2, n3, n4⟩ := sh_law
  have HA := Lib.hid (And.intro a0 <| And.intro a1 <| And.intro a2 <| And.intro a3 <| And.intro a4 <| And.intro a5 <| And.intro a6 a7)
  have HN := Lib.hid (And.intro n0 <| And.intro n1 <| And.intro n2 <| And.intro n3 n4)
  clear a0 a1 a2 a3 a4 a5 a6 a7 n0 n1 n2 n3 n4
  go_enter Tryz.func13, Tryz.ntmps13
  go_wp2_with fail
  refine (New_ok 20 _ (by decide) (by decide)).mono ?_
  intro e v1 hN
  obtain ⟨p, g, rfl, h1⟩ := QPlay.of_new hN (by decide)
  clear hN
  go_wp2_with fail
  have c1 := play_new h1 hI (Nat.zero_le _)
  rw [HA.out.1] at c1
  dsimp only at c1
  with_reducible refine c1.mono ?_
  rintro e v2 ⟨o0, lv, rfl, hlv, z2⟩
  have h2 := h1.went z2
  clear c1 h1 z2
  obtain ⟨-, A0, cp0, rfl, -⟩ := rowE_own hlv
  clear hlv
  obtain ⟨b, hb⟩ := qptr_some h2.at_
  rw [hb]
  have HB := Lib.hid hb
  clear hb
  have hE := ext_new v2 (.cells #[.int .i64 0, .int .i64 7, .string ⟨#[97]⟩, .string ⟨#[104, 105]⟩, .int .i64 5, .bool false, .bool false] 23)
  have hX := Blk.new_ v2 23 #[.int .i64 0, .int .i64 7, .string ⟨#[97]⟩, .string ⟨#[104, 105]⟩, .int .i64 5, .bool false, .bool false]
  have hnx : ∀ j, KF o0 p g j → j < v2.heap.size := fun j hj => h2.at_.lt hj
  have h3 := h2.ext hE
  obtain ⟨v3, hv3⟩ : ∃ v3, v2.alloc (.cells #[.int .i64 0, .int .i64 7, .string ⟨#[97]⟩, .string ⟨#[104, 105]⟩, .int .i64 5, .bool false, .bool false] 23) = v3 := ⟨_, rfl⟩
  rw [hv3] at hE hX h3
  obtain ⟨x, hx⟩ : ∃ x, v2.heap.size = x := ⟨_, rfl⟩
  rw [hx] at hX hnx hE
  have HV := Lib.hid (And.intro hv3 hx)
  clear hv3 hx h2
  go_wp2_with fail
  rw [HV.out.1, HV.out.2]
  replace hnx : ¬ KF o0 p g x := fun q => Nat.lt_irrefl _ (hnx _ q)
  have c3 := play_put ⟨0, 0, 0, shX⟩ rfl h3 hI ⟨by decide, by decide, by decide⟩ HN.out.1
  rw [HA.out.2.1, HB.out, show (QO.mk 0 0 0 shX).e.val = .agg #[.int .i64 0, .int .i64 7, .string ⟨#[97]⟩, .string ⟨#[104, 105]⟩, .int .i64 5, .bool false, .bool false] from rfl] at c3
  dsimp only at c3
  with_reducible refine c3.mono ?_
  rintro e v4 ⟨rfl, o1, z, hq⟩
  have h4 := h3.went z
  have hX4 := hX.kept (z.foot.block x hX.lt hnx)
  replace HB := Lib.hid hq
  clear c3 hq hX z h3 hnx hE
  obtain ⟨y0, y1, y2, y3, y4, y5, y6⟩ := hX4.c7.1
  go_wp2_with fail
  have c4 := play_put ⟨0, 0, 0, shX⟩ rfl h4 hI ⟨by decide, by decide, by decide⟩ HN.out.2.1
  rw [HA.out.2.2.1, HB.out, show (QO.mk 0 0 0 shX).e.val = .agg #[.int .i64 0, .int .i64 7, .string ⟨#[97]⟩, .string ⟨#[104, 105]⟩, .int .i64 5, .bool false, .bool false] from rfl] at c4
  dsimp only at c4
  with_reducible refine c4.mono ?_
  rintro e v5 ⟨rfl, o2, z, hq⟩
  have h5 := h4.went z
  replace HB := Lib.hid hq
  clear c4 hq z h4 y0 y1 y2 y3 y4 y5 y6 hX4
  go_wp2_with fail
  have c5 := play_sent ⟨1, 1, 0, EI.nil⟩ rfl h5 hI HN.out.2.2.1
  rw [HA.out.2.2.2.1, HB.out] at c5
  dsimp only at c5
  with_reducible refine c5.mono ?_
  rintro e v6 ⟨rfl, o3, z, hq⟩
  have h6 := h5.went z
  replace HB := Lib.hid hq
  clear c5 hq z h5
  go_wp2_with fail
  have c6 := play_done ⟨2, 2, 0, EI.nil⟩ rfl h6 hI HN.out.2.2.2.1
  rw [HA.out.2.2.2.2.1, HB.out] at c6
  dsimp only at c6
  with_reducible refine c6.mono ?_
  rintro e v7 ⟨rfl, o4, z, hq⟩
  have h7 := h6.went z
  replace HB := Lib.hid hq
  clear c6 hq z h6
  go_wp2_with fail
  have c7 := play_new h7 hI HN.out.2.2.2.2
  dsimp only at c7
  rw [HA.out.2.2.2.2.2.1] at c7
  dsimp only at c7
  with_reducible refine c7.mono ?_
  rintro e v8 ⟨o5, lv, rfl, hlv, z⟩
  have h8 := h7.went z
  clear c7 h7 z
  obtain ⟨-, A1, cp1, rfl, hrow⟩ := rowE_own hlv
  obtain ⟨m, rfl, hm, hcell⟩ := hrow (by decide)
  have hM := hcell 0 (by decide)
  clear hlv hrow hcell
  obtain ⟨b2, hb2⟩ := qptr_some h8.at_
  rw [hb2]
  replace HB := Lib.hid hb2
  clear hb2
  go_wp2_with fail
  refine (new_nil _ (hI.below h8.bel).d.s).mono ?_
  rintro e v9 ⟨rfl, hb9⟩
  have h9 := h8.ext hb9
  replace hM := hM.below hm hb9
  have m2 : v9.cell? ⟨m, 2, none⟩ = some (.string ⟨#[97]⟩) := hM.2.2.1
  have m6 : v9.cell? ⟨m, 6, none⟩ = some (.bool true) := hM.2.2.2.2.2.2
  clear hM h8 hb9
  go_wp2_with fail
  have cE := play_entries h9.at_
  rw [HA.out.2.2.2.2.2.2.1, HB.out] at cE
  with_reducible refine cE.mono ?_
  rintro e v10 ⟨lv, rfl, hlv, hb10⟩
  obtain ⟨-, A2, cp2, rfl, -⟩ := rowE_own hlv
  have h10 := h9.ext hb10
  clear cE hlv h9 hb10 m2 m6
  go_wp2_with fail
  have cK := play_knows ⟨#[97]⟩ h10.at_
  rw [HA.out.2.2.2.2.2.2.2, HB.out] at cK
  with_reducible refine cK.mono ?_
  rintro e v11 ⟨rfl, rfl⟩
  have hfin := h10.bel
  clear cK h10
  go_wp2_with fail
  go_ret
  exact ⟨rfl, hfin⟩

end Go.Proofs.YtmebjdbkngehiaaGreatDoor

namespace Go.Proofs.YtmebjdbkngehiaaGreatDoor
open Go.RowKit Go.Shelf

/-- What is asked of an argument's calls. -/
def QO.In (x : QO) : Prop := x.e.key.size ≤ 9223372036854775807 ∧ x.e.data.size ≤ 9223372036854775807 ∧ x.a ≤ 9223372036854775807
theorem QO.In.cut {x : QO} (h : x.In) : x.cut.Ok := by
  refine ⟨?_, ?_, h.2.2⟩
  · show (x.e.key.extract 0 (min x.e.key.size 121)).size ≤ 1000000
    rw [ByteArray.size_extract]; omega
  · show (x.e.data.extract 0 (min x.e.data.size 300)).size ≤ 1000000
    rw [ByteArray.size_extract]; omega
theorem acts_take {k : KN} {l : List QO} {j : Nat} (h : j < l.length) : k.acts (l.take (j + 1)) = ((k.acts (l.take j)).act l[j]).1 := by
  unfold KN.acts
  rw [List.take_succ_eq_append_getElem h, List.foldl_append]
  rfl
/-- What Made keeps between calls. -/
structure MLoop (w : World) (kb p g base top : Nat) (V : Value) (ys : List QO) (m j : Nat) (wr : World) : Prop where
  ex : ∃ o, QPlay w p g o (deskN m (ys.take j)) wr ∧ Blk wr kb 41 #[.pointer (some ⟨p, 0, none⟩), qPtr o] ∧ ¬ KF o p g kb ∧ (∀ i, KF o p g i → i < base ∨ top ≤ i)
  own : wr.ownsRow base 25 10 V ys.length (cellsC ys)
  top : top ≤ wr.heap.size
theorem MLoop.step {w : World} {kb p g base top : Nat} {V : Value} {ys : List QO} {m j : Nat} {wr w2 : World} {o : Option (QC × QV)} {e : Ending} {S : Prop} (hj : j < ys.length) (hP : QPlay w p g o (deskN m (ys.take j)) wr) (hB : Blk wr kb 41 #[.pointer (some ⟨p, 0, none⟩), qPtr o]) (hn : ¬ KF o p g kb) (hK : ∀ i, KF o p g i → i < base ∨ top ≤ i)
    (hown : wr.ownsRow base 25 10 V ys.length (cellsC ys)) (ht : top ≤ wr.heap.size) (hkb : kb < base) (hw : w.heap.size ≤ kb) (hrow : ∀ k, some k = V.ownBlock → base ≤ k ∧ k < top) (hD : DoAt S wr kb p g o ((deskN m (ys.take j)).act ys[j]) e w2) : (∃ lv, e = .returned (.agg #[.int .i64 ((deskN m (ys.take j)).act ys[j]).2.n, lv, .int .i64 ((deskN m (ys.take j)).act ys[j]).2.err])) ∧ MLoop w kb p g base top V ys m (j + 1) w2 := by
  obtain ⟨⟨o', lv, he, hl, hB2, hA2, hN2, -⟩, hF⟩ := hD
  refine ⟨⟨lv, he⟩, ⟨o', ⟨?_, ?_, fun i hi => ?_⟩, hB2, fun q => (hN2 _ q).elim hn fun q => Nat.lt_irrefl _ (Nat.lt_of_lt_of_le hB.lt q), fun i hi => (hN2 i hi).elim (hK i) fun q => .inr (Nat.le_trans ht q)⟩, own_keep hown fun k hk => ?_, Nat.le_trans ht hF.size⟩
  · rw [show deskN m (ys.take (j + 1)) = ((deskN m (ys.take j)).act ys[j]).1 from acts_take hj]
    exact hA2
  · exact below_foot hP.bel hF (fun i hi => hi.elim (fun q => by omega) (hP.new_ i)) hP.bel.size
  · exact (hN2 i hi).elim (hP.new_ i) fun q => Nat.le_trans hP.bel.size q
  · obtain ⟨r1, r2⟩ := hrow k hk
    refine hF.block k (Nat.lt_of_lt_of_le r2 ht) fun q => ?_
    rcases q with rfl | q
    · omega
    · exact (hK k q).elim (by omega) (by omega)
theorem Made_no {w : World} (s : Int) (l : Value) (h : s < 1 ∨ 256 < s) : Calls Tryz.prog 28 #[.int .i64 s, l] w (Pure (.tuple #[.pointer none, .pointer none, .bool false]) w) := by
  have c := New_no s w h
  go_enter Tryz.func28, Tryz.ntmps28
  go_wp2_with fail
  with_reducible refine c.mono ?_
  rintro e w1 ⟨rfl, rfl⟩
  clear c h
  go_wp2_with fail
  exact bodyPost_ret (v := .tuple #[.pointer none, .pointer none, .bool false]) (by simp [results, Tryz.results28, go_sem]) rfl ⟨rfl, rfl⟩
set_option maxRecDepth 100000 in
set_option maxHeartbeats 8000000 in
theorem Made_ok {w : World} {aA aT aN aW aS : Addr} (hI : GInv w aA aT aN aW aS) (m : Nat) (h1 : 1 ≤ m) (h2 : m ≤ 256) (A : Option Addr) (n c : Nat) (xs : List QO) (hx : xs.length = min n 30) (ha : RdC w A xs) (hd : ∀ x ∈ xs, x.In) :
    Calls Tryz.prog 28 #[.int .i64 (m : Int), .slice A n c] w fun e w' => ∃ p g o, e = .returned (.tuple #[.pointer (some ⟨p, 0, none⟩), qPtr o, .bool (decide ((madeN m (xs.map QO.cut)).2.2.2 = 0))]) ∧ QPlay w p g o ⟨(madeN m (xs.map QO.cut)).1, (madeN m (xs.map QO.cut)).2.1⟩ w' := by
  have hNw := New_ok m w h1 h2
  have HH := Lib.hid (And.intro h1 <| And.intro h2 <| And.intro hx <| And.intro ha hd)
  clear h1 h2 hx ha hd
  go_enter Tryz.func28, Tryz.ntmps28
  go_wp2_with fail
  with_reducible refine hNw.mono ?_
  intro e v1 hN
  obtain ⟨p, g, rfl, hP1⟩ := QPlay.of_new hN HH.out.1
  clear hN hNw
  have hE := ext_new v1 (.cells #[.pointer (some ⟨p, 0, none⟩), .pointer none] 41)
  have hK := Blk.new_ v1 41 #[.pointer (some ⟨p, 0, none⟩), .pointer none]
  have hnk : ¬ KF none p g v1.heap.size := fun hj => Nat.lt_irrefl _ (hP1.at_.lt hj)
  have hkb : w.heap.size ≤ v1.heap.size := hP1.bel.size
  have hP2 := hP1.ext hE
  obtain ⟨W2, hW2⟩ : ∃ W2, v1.alloc (.cells #[.pointer (some ⟨p, 0, none⟩), .pointer none] 41) = W2 := ⟨_, rfl⟩
  rw [hW2] at hK hP2
  obtain ⟨kb, hkbe⟩ : ∃ kb, v1.heap.size = kb := ⟨_, rfl⟩
  rw [hkbe] at hK hnk hkb
  have HV := Lib.hid (And.intro hW2 hkbe)
  clear hP1 hE hW2 hkbe
  go_wp2_with fail
  rw [HV.out.1, HV.out.2]
  have cN := play_new hP2 hI (Nat.zero_le _)
  dsimp only at cN
  with_reducible refine cN.mono ?_
  rintro e v3 ⟨o3, lv, rfl, hlv, hw3⟩
  obtain ⟨A3, c3, rfl⟩ := own_form hlv
  have hK3 := hK.kept (hw3.foot.block kb hK.lt hnk)
  have hnk3 : ¬ KF o3 p g kb := fun q => (hw3.new_ _ q).elim hnk fun q => Nat.lt_irrefl _ (Nat.lt_of_lt_of_le hK.lt q)
  have hP3 := hP2.went hw3
  obtain ⟨u, hu⟩ : ∃ u, qPtr o3 = .pointer u := by cases o3 <;> exact ⟨_, rfl⟩
  obtain ⟨x0, x1, y0, y1⟩ := hK3.c2
  have hK4 := hK3.set_ 1 (.pointer u)
  have hP4 : QPlay w p g o3 (deskN m []) (v3.setCell ⟨kb, 1, none⟩ (.pointer u)) :=
    ⟨hP3.at_.kept fun j hj => set_heap fun q => hnk3 (q ▸ hj), hP3.bel.setCell (by omega) _, hP3.new_⟩
  obtain ⟨V4, hV4⟩ : ∃ V4, v3.setCell ⟨kb, 1, none⟩ (.pointer u) = V4 := ⟨_, rfl⟩
  rw [hV4] at hK4 hP4
  have hK5 : Blk V4 kb 41 #[.pointer (some ⟨p, 0, none⟩), qPtr o3] := by rw [hu]; exact hK4
  have HV4 := Lib.hid hV4
  clear hV4 hK4 cN hlv hP3 hK3 hw3 hP2 hnk hK
  rw [hu]
  clear hu
  have cC := qcut_any A n c xs V4 HH.out.2.2.1 (HH.out.2.2.2.1.below hP4.bel) fun x hx => ⟨(HH.out.2.2.2.2 x hx).1, (HH.out.2.2.2.2 x hx).2.1⟩
  go_wp2_with fail
  rw [HV4.out]
  with_reducible refine cC.mono ?_
  rintro e w5 ⟨V, rfl, hown, hb5⟩
  obtain ⟨A5, c5, rfl⟩ := own_form hown
  clear cC
  have hlt5 : ∀ k, some k = (Value.slice A5 xs.length c5).ownBlock → V4.heap.size ≤ k ∧ k < w5.heap.size := fun k hk => hown.lt k hk.symm
  have HH1 := Lib.hid (show xs.length ≤ 30 from by have := HH.out.2.2.1; omega)
  have HO := Lib.hid (fun x (hx : x ∈ xs.map QO.cut) => (show x.Ok from by
    obtain ⟨y, hy, rfl⟩ := List.mem_map.1 hx
    exact (HH.out.2.2.2.2 y hy).cut))
  have hkl := hK5.lt
  have hL0 : MLoop w kb p g V4.heap.size w5.heap.size (.slice A5 xs.length c5) (xs.map QO.cut) m 0 w5 :=
    ⟨⟨o3, hP4.ext hb5, hK5.below hb5, hnk3, fun i hi => .inl (hP4.at_.lt hi)⟩, by rw [List.length_map]; exact hown, Nat.le_refl _⟩
  have HM := Lib.hid (And.intro HH.out.1 HH.out.2.1)
  obtain ⟨ys, hys⟩ : ∃ ys, xs.map QO.cut = ys := ⟨_, rfl⟩
  have hyl : ys.length = xs.length := by rw [← hys, List.length_map]
  rw [hys] at hL0 HO
  rw [← hyl] at hL0 hlt5 HH1
  obtain ⟨base, hbase⟩ : ∃ base, V4.heap.size = base := ⟨_, rfl⟩
  obtain ⟨top, htop⟩ : ∃ top, w5.heap.size = top := ⟨_, rfl⟩
  rw [hbase, htop] at hL0 hlt5
  rw [hbase] at hkl
  have HR := Lib.hid hlt5
  have HY := Lib.hid hys
  clear hown hb5 hP4 hK5 hnk3 HH hlt5 hys hbase htop
  rw [← hyl]
  clear hyl
  go_wp2_with fail
  go_loopw [10] (fun i wr => ∃ j : Nat, j ≤ ys.length ∧ i = .int .i64 (j : Int) ∧ MLoop w kb p g base top (.slice A5 ys.length c5) ys m j wr) (fun i _ => ys.length - (intOf i).toNat)
  case atStart => exact ⟨0, by omega, rfl, hL0⟩
  case round =>
    obtain ⟨j, hj, rfl, hL⟩ := hrel
    clear hL0
    by_cases hlt : j < ys.length
    · obtain ⟨⟨o, hP, hB, hn, hK⟩, hown, ht⟩ := hL
      obtain ⟨-, A', c', he, hr⟩ := rdC_own hown
      obtain ⟨rfl, -, rfl⟩ : A5 = A' ∧ ys.length = ys.length ∧ c5 = c' := by injection he with e1 e2 e3; exact ⟨e1, e2, e3⟩
      obtain ⟨a, rfl, hab, hca⟩ := hr (by omega)
      obtain ⟨x0, x1, x2, x3, x4, x5, x6, x7, x8, x9⟩ := hca j hlt
      have hdk : (deskN m (ys.take j)).d.n ≤ 950000 := Nat.le_trans (desk_n HM.out.2 (by rw [List.length_take]; have := HH1.out; omega)) (by omega)
      have cD := do_any ys[j] hP.at_ hB hn (hP.glb hI) (HO.out _ (List.getElem_mem hlt)) hdk
      have HST := Lib.hid (fun e w2 => MLoop.step (e := e) (w2 := w2) (S := 4 < ys[j].kind) hlt hP hB hn hK hown ht hkl hkb HR.out)
      clear hca hr he hP hB hn hK hown ht hdk
      have i1 : (0 : Int) ≤ (j : Int) := by omega
      have i2 : (j : Int) < (ys.length : Int) := by omega
      have i3 : ys.length ≤ 30 := HH1.out
      unfold QO.val at cD
      obtain ⟨y, hy⟩ : ∃ y, ys[j] = y := ⟨_, rfl⟩
      rw [hy] at cD x0 x1 x2 x3 x4 x5 x6 x7 x8 x9 HST
      go_wp2_with fail
      with_reducible refine cD.mono ?_
      intro e w6 hD
      obtain ⟨⟨lv, rfl⟩, hL6⟩ := HST.out e w6 hD
      clear cD hD HST x0 x1 x2 x3 x4 x5 x6 x7 x8 x9 hy
      go_wp2_with fail
      go_roundw
      · exact ⟨j + 1, by omega, by go_num, hL6⟩
      · simp [intOf]; omega
    · obtain rfl : j = ys.length := by omega
      obtain ⟨⟨o, hP, hB, hn, hK⟩, -, -⟩ := hL
      rw [List.take_length] at hP
      clear hlt
      have cR := play_restart hP
      have hrn : (deskN m ys).d.restart.n ≤ 950000 := Nat.le_trans (show (deskN m ys).d.restart.n ≤ 480000 from desk_n HM.out.2 HH1.out) (by omega)
      have HRN := Lib.hid hrn
      clear hrn
      go_wp2_with fail
      with_reducible refine cR.mono ?_
      rintro e w7 ⟨rfl, hw7⟩
      have hP7 := hP.went hw7
      clear cR hw7 hP hB hn hK
      have cN := play_new hP7 hI HRN.out
      dsimp only at cN
      go_wp2_with fail
      with_reducible refine cN.mono ?_
      rintro e w8 ⟨o8, lv, rfl, hlv, hw8⟩
      have hP8 := hP7.went hw8
      obtain ⟨A8, c8, rfl⟩ := own_form hlv
      clear cN hlv hw8 hP7
      have hfin : QPlay w p g o8 ⟨(madeN m ys).1, (madeN m ys).2.1⟩ w8 := hP8
      have HF := Lib.hid hfin
      clear hP8 hfin
      obtain ⟨ne, hne⟩ : ∃ ne, (newN (deskN m ys).d.restart).2.2.2 = ne := ⟨_, rfl⟩
      have HNE := Lib.hid (show (madeN m ys).2.2.2 = ne from hne)
      rw [hne]
      clear hne
      by_cases hz : ne = 0
      · subst hz
        go_wp2_with fail
        refine bodyPost_ret (v := .tuple #[.pointer (some ⟨p, 0, none⟩), qPtr o8, .bool true]) (by simp [results, Tryz.results28, go_sem]) rfl ⟨p, g, o8, by rw [HY.out, HNE.out]; rfl, by rw [HY.out]; exact HF.out⟩
      · have HZ := Lib.hid hz
        go_wp2_with fail
        refine bodyPost_ret (v := .tuple #[.pointer (some ⟨p, 0, none⟩), qPtr o8, .bool false]) (by simp [results, Tryz.results28, go_sem, HZ.out]) rfl ⟨p, g, o8, by rw [HY.out, HNE.out, decide_eq_false HZ.out], by rw [HY.out]; exact HF.out⟩

end Go.Proofs.YtmebjdbkngehiaaGreatDoor
