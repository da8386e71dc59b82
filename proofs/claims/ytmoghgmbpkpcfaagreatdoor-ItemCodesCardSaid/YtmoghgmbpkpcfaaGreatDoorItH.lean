/-
  Package item: items' bytes (Encode). Conditions: head's and nums' listed variables hold what 'HInv' says.
-/
import Derived.Test.YtmoghgmbpkpcfaaGreatDoorItG
import Derived.Test.YtmoghgmbpkpcfaaGreatDoorItL
import Derived.Test.YtmoghgmbpkpcfaaGreatDoorMgJ
import Derived.Deep.DeepMust
namespace Go.Proofs.YtmoghgmbpkpcfaaGreatDoor
open Go.RowKit Go.Shelf
attribute [local go_sem] Oper.semAt_some

/-- A builder in block b, its row beyond. -/
abbrev IsBu (b : Nat) (bs : List Value) (w : World) : Prop := Lib.IsBuilder 42 5 b b bs w
theorem bu_other {b : Nat} {bs : List Value} {A B : World} {row : Option Nat} (h : IsBu b bs A) (hg : A.grownBy B row) (hr : ∀ r, row = some r → ∃ o : Obj, A.heap[r]? = some o ∧ o.isCells = false) : IsBu b bs B := by
  have key : ∀ p, Lib.BuilderAt 42 5 b b p bs A → Lib.BuilderAt 42 5 b b p bs B := by
    rintro p ⟨hB, v, hb, hown, hne⟩
    refine ⟨hB, v, ?_, own_other hown hg hr, hne⟩
    rw [hg.block b (Array.getElem?_eq_some_iff.1 hb).1 (fun e => ?_)]
    · exact hb
    · obtain ⟨o, ho, hc⟩ := hr b e.symm
      rw [hb] at ho
      cases ho
      cases hc
  exact h.imp (key _) (key _)
theorem bu_below {b : Nat} {bs : List Value} {A B : World} (h : IsBu b bs A) (hb : Below A.heap.size A B) : IsBu b bs B := by
  have key : ∀ p, Lib.BuilderAt 42 5 b b p bs A → Lib.BuilderAt 42 5 b b p bs B := by
    rintro p ⟨hB, v, hbk, hown, hne⟩
    exact ⟨hB, v, (hb.block b (Array.getElem?_eq_some_iff.1 hbk).1).trans hbk, own_below hown hb, hne⟩
  exact h.imp (key _) (key _)
theorem bu_mv {N b : Nat} {bs : List Value} {A B : World} (h : IsBu b bs A) (hm : MvI N A B) (hN : b < N) : IsBu b bs B := by
  have key : ∀ p, Lib.BuilderAt 42 5 b b p bs A → Lib.BuilderAt 42 5 b b p bs B := by
    rintro p ⟨hB, v, hbk, hown, hne⟩
    refine ⟨hB, v, hm.keep b _ hbk (.inl hN), ?_, hne⟩
    have h' := hown
    obtain ⟨h0, ⟨rfl, h1⟩ | ⟨g, cap, cur, rfl, hb', hg, hr⟩⟩ := h'
    · exact ⟨h0, .inl ⟨rfl, h1⟩⟩
    · exact ⟨h0, .inr ⟨g, cap, cur, rfl, hb', hm.keep g _ hg (.inr ⟨_, _, rfl⟩), hr⟩⟩
  exact h.imp (key _) (key _)
theorem bu_lt {b : Nat} {bs : List Value} {w : World} (h : IsBu b bs w) : b < w.heap.size := by
  rcases h with h | h
  · exact h.lt
  · exact h.lt
theorem bu_cells {b : Nat} {bs : List Value} {w : World} (h : IsBu b bs w) : ∃ cs, w.heap[b]? = some (.cells cs 42 (0, 0)) := by
  rcases h with ⟨-, v, hb, -⟩ | ⟨-, v, hb, -⟩ <;> exact ⟨_, hb⟩
theorem keep_from {b B D : Nat} {bs : List Value} {w w' : World} (h : BKeep B b w w') (hb : IsBu b bs w) : KeepsFrom D w w' :=
  ⟨h.below.size, fun k o _ hk ho => h.block k o hk (fun e => by
    subst e
    obtain ⟨cs, hc⟩ := bu_cells hb
    rw [hc] at hk
    cases hk
    cases ho) (fun c fr e => by subst e; cases ho)⟩
theorem bu_new (w : World) : IsBu w.heap.size [] (w.alloc (.cells #[.pointer none, .slice none 0 0] 42)) :=
  .inl ⟨Nat.le_refl _, _, World.alloc_heap_new w _, own_nil, by simp [Value.ownBlock]⟩

theorem run_max3 (ts : Array TypeId) (t : TypeId) (n : Int) (s m : Nat) (w : World) : (Builtin.max_ ts t #[.int .i64 n, .int .i64 (s : Int), .int .i64 (m : Int)]).run Tryz.prog w = .ok (.int .i64 (argI n s m)) w := by
  have h2 : ∀ x y : Int, (Builtin.max2 (.int .i64 x) (.int .i64 y)).run Tryz.prog w = .ok (.int .i64 (max x y)) w := by
    intro x y
    simp only [Builtin.max2]
    by_cases h : x < y
    · simp [h, Int.max_eq_right (Int.le_of_lt h)]
    · simp [h, Int.max_eq_left (Int.not_lt.1 h)]
  have e : (Builtin.max_ ts t #[.int .i64 n, .int .i64 (s : Int), .int .i64 (m : Int)]) = (do let a ← Builtin.max2 (.int .i64 n) (.int .i64 (s : Int)); Builtin.max2 a (.int .i64 (m : Int))) := by
    simp [Builtin.max_, List.foldlM]
  rw [e, Sem.run_bind, h2]
  exact h2 _ _
theorem enc_one {k n : Int} {s : ByteArray} {m : Nat} (h : oneB k n s m = true) (hm : m ≤ 62) : encV k (argI n s.size m) = (⟨(headL k.toNat (argI n s.size m).toNat).toArray⟩, 0) ∧ (headL k.toNat (argI n s.size m).toNat).length + s.size ≤ 609 := by
  have hw := wOf_le (argI n s.size m).toNat
  have hl := headL_length k.toNat (argI n s.size m).toNat
  rcases oneB_cases h with ⟨rfl, h1, h2, h3, h4⟩ | ⟨rfl, rfl, h3, h4⟩ | ⟨rfl, rfl, h3, h4, h5⟩ | ⟨rfl, rfl, h3⟩
  · exact ⟨encV_ok (by decide) (okNum_iff.2 (by unfold argI; omega)), by omega⟩
  · exact ⟨encV_ok (by decide) (okNum_iff.2 (by unfold argI; omega)), by omega⟩
  · exact ⟨encV_ok (by decide) (okNum_iff.2 (by unfold argI; omega)), by omega⟩
  · exact ⟨encV_ok (by decide) (okNum_iff.2 (by unfold argI; omega)), by omega⟩
/-- The bytes of what came. -/
def hbs (pre : List (Nat × TV)) : List UInt8 := pre.flatMap fun p => headB p.2.item
theorem hbs_snoc (pre : List (Nat × TV)) (p : Nat × TV) : hbs (pre ++ [p]) = hbs pre ++ headB p.2.item := by simp [hbs]
theorem hbs_all (t : TV) : hbs (t.pre 1) = t.item.bytes := by
  rw [← t.item.pre_bytes 1, ← t.pre_items 1, List.flatMap_map]
  rfl
theorem headB_eq (x : TV) : headB x.item = headL x.kind.toNat (argI x.num x.txt.size x.kids.length).toNat ++ x.txt.data.toList := by
  rw [headB, x.item_eq]
  show headL x.kind.toNat (argI x.num x.txt.size (TV.items x.kids).length).toNat ++ _ = _
  rw [items_length]
  rfl
theorem fits_pre {t : TV} : ∀ {h d : Nat}, Fits h t → ∀ p ∈ t.pre d, p.2.kids.length ≤ 62 := by
  induction t using TV.ind with
  | h k n s a c l ih =>
    intro h d hf p hp
    rw [TV.pre] at hp
    rcases List.mem_cons.1 hp with rfl | hp
    · obtain ⟨h', rfl⟩ := hf.pos
      exact hf.kid.1
    · obtain ⟨h', rfl⟩ := hf.pos
      have hk := hf.kid.2.2
      have hk : ∀ x ∈ l, Fits h' x := hk
      have aux : ∀ m : List TV, (∀ y ∈ m, y ∈ l) → ∀ d', p ∈ TV.preL m d' → p.2.kids.length ≤ 62 := by
        intro m
        induction m with
        | nil => intro _ d' hp; rw [TV.preL] at hp; cases hp
        | cons x m ihm =>
          intro hm d' hp
          rw [TV.preL] at hp
          rcases List.mem_append.1 hp with hp | hp
          · exact ih x (hm x (by simp)) (hk x (hm x (by simp))) p hp
          · exact ihm (fun y hy => hm y (by simp [hy])) d' hp
      exact aux l (fun y hy => hy) (d + 1) hp
theorem pre_one {t : TV} (h : t.item.right = true) (p : Nat × TV) (hp : p ∈ t.pre 1) : p.2.item.one = true := by
  rw [IN.right_pre, Bool.and_eq_true, ← okPre_all] at h
  have := List.all_eq_true.1 h.2 p hp
  rw [Bool.and_eq_true] at this
  exact this.2
theorem one_tree {x : TV} (h : x.item.one = true) : oneB x.kind x.num x.txt x.kids.length = true := by
  rw [x.item_eq, IN.one, items_length] at h
  exact h
theorem hbs_len {t : TV} (h : t.item.right = true) (hf : Fits 7 t) : ∀ pre r, t.pre 1 = pre ++ r → (hbs pre).length ≤ 609 * pre.length := by
  intro pre
  induction pre with
  | nil => intro r _; exact Nat.zero_le _
  | cons p l ih =>
    intro r hr
    have key : ∀ m : List (Nat × TV), (∀ q ∈ m, q ∈ t.pre 1) → (hbs m).length ≤ 609 * m.length := by
      intro m
      induction m with
      | nil => intro _; exact Nat.zero_le _
      | cons q m ihm =>
        intro hq
        have h1 := ihm fun q' h' => hq q' (by simp [h'])
        have h2 := (enc_one (one_tree (pre_one h q (hq q (by simp)))) (fits_pre hf q (hq q (by simp)))).2
        have h3 := headB_eq q.2
        have h4 := congrArg List.length h3
        rw [List.length_append, txt_list] at h4
        rw [show hbs (q :: m) = headB q.2.item ++ hbs m from rfl, List.length_append, List.length_cons]
        omega
    exact key _ fun q hq => by rw [hr]; exact List.mem_append_left _ hq

/-- Where Encode stands. -/
structure EncI (w : World) (b : Nat) (t : TV) (pre : List (Nat × TV)) (W : World) : Prop where
  bx : Blk W (b + 1) 24 #[.int .i64 t.kind, .int .i64 t.num, .string t.txt, t.row]
  bu : IsBu b (Lib.byteCells (hbs pre)) W
  bel : Below w.heap.size w W
  size : b + 2 ≤ W.heap.size

set_option maxRecDepth 100000 in
set_option maxHeartbeats 4000000 in
theorem Encode_tree (t : TV) (w : World) (A : Nat → Addr) (aN aW aS : Addr) (hI : HInv w A aN aW aS) (hat : ItAt w.heap.size w t) (hfit : Fits 7 t) : Calls Tryz.prog 7 #[t.val] w (Ret (.tuple #[.string (encI t.item).1, .int .i64 (encI t.item).2]) w) := by
  have hRt := fun W h => Right_tree t W h hfit
  unfold TV.val TV.row at hRt ⊢
  rw [encI]
  generalize hr : t.item.right = b at *
  have HR := Lib.hid hr
  clear hr
  refine callsIn_wide.1 (callsIn_of_wp_marks (n := 9) Tryz.func7 rfl trivial ?_ rfl)
  simp only [Tryz.ntmps7, List.size_toArray, List.length_cons, List.length_nil, Nat.reduceAdd, Nat.reduceSub, Array.replicate_succ, Array.replicate_zero, List.push_toArray, List.append_toArray, List.nil_append, List.cons_append]
  refine wpIn_wide.2 ?_
  have q1 := Blk.new_ w 24 #[.int .i64 t.kind, .int .i64 t.num, .string t.txt, .slice t.at_ t.kids.length t.cap]
  have q2 := ext_new w (.cells #[.int .i64 t.kind, .int .i64 t.num, .string t.txt, .slice t.at_ t.kids.length t.cap] 24)
  cases b with
  | false =>
    go_wp2_with fail
    refine (hRt _ (hat.later q2 q2.size)).mono ?_
    rintro y W2 ⟨rfl, hb2⟩
    obtain ⟨x0, x1, x2, x3, -⟩ := (q1.below hb2).c4
    have hW2 := ext_trans q2 hb2
    have hlt2 : w.heap.size < W2.heap.size := cell_lt x0
    have hne2 : ¬ W2.heap.size = w.heap.size := by omega
    have hne3 : ¬ w.heap.size = W2.heap.size := by omega
    clear hRt
    go_wp2_with fail
    exact ⟨_, results_tmp2 rfl _ _ _, rfl, hW2⟩
  | true =>
    rw [if_pos rfl]
    go_wp2_with fail
    refine (hRt _ (hat.later q2 q2.size)).mono ?_
    rintro y W2 ⟨rfl, hb2⟩
    obtain ⟨x0, x1, x2, x3, -⟩ := (q1.below hb2).c4
    have hW2 := ext_trans q2 hb2
    have hlt2 : w.heap.size < W2.heap.size := cell_lt x0
    have hne2 : ¬ W2.heap.size = w.heap.size := by omega
    have hne3 : ¬ w.heap.size = W2.heap.size := by omega
    clear hRt q1 q2 hb2
    have hm := fun W => items_mk t W
    unfold TV.val TV.row at hm
    go_wp2_with fail
    refine (hm _).mono ?_
    rintro y w5 ⟨rfl, rfl⟩
    go_wp2_with fail
    have b4 : Below w.heap.size w ((W2.alloc (.cells #[.pointer none, .slice none 0 0] 42)).alloc (.cells #[.int .i64 t.kind, .int .i64 t.num, .string t.txt, .slice t.at_ t.kids.length t.cap] 24)) := (hW2.alloc hW2.size _).alloc (by have := hW2.size; simp; omega) _
    have hsz : ((W2.alloc (.cells #[.pointer none, .slice none 0 0] 42)).alloc (.cells #[.int .i64 t.kind, .int .i64 t.num, .string t.txt, .slice t.at_ t.kids.length t.cap] 24)).heap.size = W2.heap.size + 2 := by simp
    have hbu0 : IsBu W2.heap.size [] ((W2.alloc (.cells #[.pointer none, .slice none 0 0] 42)).alloc (.cells #[.int .i64 t.kind, .int .i64 t.num, .string t.txt, .slice t.at_ t.kids.length t.cap] 24)) := bu_below (bu_new W2) (ext_new _ _)
    have hx0 : Blk ((W2.alloc (.cells #[.pointer none, .slice none 0 0] 42)).alloc (.cells #[.int .i64 t.kind, .int .i64 t.num, .string t.txt, .slice t.at_ t.kids.length t.cap] 24)) (W2.heap.size + 1) 24 #[.int .i64 t.kind, .int .i64 t.num, .string t.txt, t.row] := Blk.at_ (by simp)
    have hws := hW2.size
    generalize ((W2.alloc (.cells #[.pointer none, .slice none 0 0] 42)).alloc (.cells #[.int .i64 t.kind, .int .i64 t.num, .string t.txt, .slice t.at_ t.kids.length t.cap] 24)) = W4 at *
    have hat4 := hat.later b4 (Nat.le_refl _)
    clear hm
    refine wpIn_wide.1 (wpIn_rangeY (n := 9) (gf := 30) (lb := #[.pointer (some ⟨W2.heap.size + 1, 0, none⟩)]) rfl (by omega) rfl trivial (enters_of Tryz.func30 (by kernel_rfl) rfl)
      (items_seq t (W2.heap.size + 1) w.heap.size (W2.heap.size + 4) _ (by omega) (by omega) hfit) (fun _ => rfl) ?hSt ?hSe ?hKt ?hKb ?hMb ?hKs
      (fun pre W => EncI w W2.heap.size t pre W) (fun _ _ _ => False) ?hI (fun _ _ _ _ _ h _ _ => h) ?hIM (fun _ _ _ _ h _ => h) ?h0 ?hround ?hdone (fun _ _ _ _ h _ => h.elim))
    case hSt => exact fun o o' => ⟨by simp; omega, (hx0.alloc _).alloc _, hat4.later (((Below.refl _ W4).alloc (by omega) _).alloc (by simp; omega) _) (Nat.le_refl _)⟩
    case hSe => exact fun xs W l o o' _ _ _ h => h
    case hKt => exact fun h k => ⟨h.below.trans k.below, k.box.trans h.box, fun i o hi ho hb => k.keep i o hi (h.keep i o hi ho hb) hb⟩
    case hKb =>
      intro W o o' ho _
      have hlt := (Array.getElem?_eq_some_iff.1 ho).1
      exact ⟨(Below.refl _ W).grown (grownBy_putObj' W _ _) (by omega) (fun k q => by cases q; omega), World.putObj_heap_other (by omega), fun k o2 hk h2 _ => (World.putObj_heap_other (by omega)).trans h2⟩
    case hMb =>
      rintro A B hM l o hl hl2 ho _
      exact hM.keep l o ho (.inl (by omega))
    case hKs => exact fun A B h k o hk => h k o (by omega)
    case hI =>
      rintro pre A B row ⟨h0, h1, h3, h4⟩ hg hr
      exact ⟨h0.kept (hg.block _ h0.lt (fun e => by have := (hr _ e.symm).1; omega)), bu_other h1 hg (fun r q => (hr r q).2), h3.grown hg (by omega) (fun k q => by have := (hr k q).1; omega), Nat.le_trans h4 hg.size⟩
    case hIM =>
      rintro pre A B ⟨h0, h1, h3, h4⟩ hM
      exact ⟨hM.keep _ _ h0 (.inl (by omega)), bu_mv h1 hM (by omega), h3.trans (hM.bel (by omega) (by omega)), Nat.le_trans h4 hM.size⟩
    case h0 => exact ⟨hx0, hbu0, b4, by omega⟩
    case hround =>
      rintro l pre ⟨d, x⟩ W hP ⟨r, hrr⟩ hlW
      unfold itemE TV.val TV.row
      dsimp only
      simp only [List.zip_toArray, List.zip_cons_cons, List.zip_nil_right, List.foldl_toArray, List.foldl_cons, List.foldl_nil, List.setIfInBounds_toArray, List.set_cons_succ, List.set_cons_zero]
      gi_wp2
      refine ⟨KeepsFrom.of_grownBy (World.grownBy_alloc W _ none) (fun j hj => by cases hj), ⟨(Below.refl _ W).alloc (by have := hP.size; omega) _, Below.heap_alloc _ _ _ (by omega), fun k o _ ho _ => (Below.heap_alloc _ _ _ (Array.getElem?_eq_some_iff.1 ho).1).trans ho⟩, ⟨hP.bx.alloc _, bu_below hP.bu (ext_new _ _), hP.bel.alloc (by have := hP.size; omega) _, by have := hP.size; simp; omega⟩, ?_⟩
      rintro Wb ⟨h0, h1, h3, h4⟩ hWb
      have bx : Blk Wb W.heap.size 24 #[.int .i64 x.kind, .int .i64 x.num, .string x.txt, .slice x.at_ x.kids.length x.cap] := (hWb _ (by omega)).trans (World.alloc_heap_new W _)
      clear hWb hP
      obtain ⟨y0, y1, y2, y3, -⟩ := bx.c4
      have hbl := bx.lt
      have hmem : (d, x) ∈ t.pre 1 := by rw [hrr]; simp
      have ho := one_tree (pre_one HR.out _ hmem)
      have h62 := fits_pre hfit _ hmem
      obtain ⟨he1, he2⟩ := enc_one ho h62
      have hHE := fun W h => Encode_any x.kind (argI x.num x.txt.size x.kids.length) W A aN aW aS h
      dsimp only at he1 he2
      rw [he1] at hHE
      have hmx := fun ts ty W => run_max3 ts ty x.num x.txt.size x.kids.length W
      have hIb := hI.below h3
      have hsn := hbs_snoc pre (d, x)
      have hHB := headB_eq x
      have hlen := hbs_len HR.out hfit pre _ hrr
      have hplen : pre.length ≤ 60 := by
        have hq := HR.out
        rw [IN.right_pre, Bool.and_eq_true, decide_eq_true_eq, right_len, hrr, List.length_append] at hq
        have := hq.1
        omega
      have hHs : (⟨(headL x.kind.toNat (argI x.num x.txt.size x.kids.length).toNat).toArray⟩ : ByteArray).size + x.txt.size ≤ 609 := by
        show (headL _ _).toArray.size + _ ≤ _
        rw [List.size_toArray]
        exact he2
      have hcat : Lib.strCells ((⟨(headL x.kind.toNat (argI x.num x.txt.size x.kids.length).toNat).toArray⟩ : ByteArray) ++ x.txt) = Lib.byteCells (headB x.item) := by
        rw [hHB, Lib.strCells, Lib.byteCells, ByteArray.data_append, Array.toList_append]
      dsimp only at hHE
      rw [show (hbs pre ++ headB (d, x).2.item) = hbs pre ++ headB x.item from rfl] at hsn
      generalize (⟨(headL x.kind.toNat (argI x.num x.txt.size x.kids.length).toNat).toArray⟩ : ByteArray) = HB at *
      generalize headB x.item = hb at *
      generalize argI x.num x.txt.size x.kids.length = ag at *
      have HSN := Lib.hid hsn
      have HCAT := Lib.hid hcat
      have HLEN := Lib.hid hlen
      clear hsn hcat hlen hHB he1 he2 ho hmem hrr
      have u1 : ¬ (9223372036854775807 < HB.size + x.txt.size) := by omega
      have hcs : (HB ++ x.txt).size = HB.size + x.txt.size := ByteArray.size_append
      gi_wp2
      refine ⟨trivial, (CallsIn.inRound l (callsIn_wide.2 (hHE _ hIb))).mono ?_⟩
      rintro y W6 ⟨rfl, hb6⟩
      have hx6 := bx.below hb6
      obtain ⟨z0, z1, z2, z3, -⟩ := hx6.c4
      have h16 := bu_below h1 hb6
      have hs6 := hb6.size
      have hW := fun (hl : (Lib.byteCells (hbs pre)).length + (HB ++ x.txt).size ≤ 1000000) => bws_any W2.heap.size W2.heap.size (Lib.byteCells (hbs pre)) (HB ++ x.txt) W6 h16 hl (by omega)
      have hW := hW (by rw [Lib.byteCells_length, hcs]; have := HLEN.out; omega)
      rw [HCAT.out] at hW
      clear hHE hmx y0 y1 y2 y3 hcs
      gi_wp2
      refine ⟨trivial, (CallsIn.inRound l (callsIn_wide.2 hW)).mono ?_⟩
      rintro y W7 ⟨rfl, k1, k2⟩
      have k3 : KeepsFrom W4.heap.size W6 W7 := keep_from k2 h16
      have hs7 := k2.below.size
      gi_wp2
      refine ⟨KeepsFrom.trans ⟨hb6.size, fun k o _ hk _ => (hb6.block k (Array.getElem?_eq_some_iff.1 hk).1).trans hk⟩ k3, ⟨(hb6.mono (by omega)).trans (k2.below.mono hws), ?_, fun k o hk ho hno => ?_⟩, ⟨?_, ?_, h3.trans ((hb6.mono (by omega)).trans (k2.below.mono hws)), by omega⟩⟩
      · have h06 : W6.heap[W2.heap.size + 1]? = _ := h0.below hb6
        rw [k2.block _ _ h06 (by omega) (fun c fr e => by injection e with _ e _; exact absurd e (by decide))]
        exact (show Wb.heap[W2.heap.size + 1]? = _ from h0).symm
      · exact k2.block k o ((hb6.block k (Array.getElem?_eq_some_iff.1 ho).1).trans ho) (by omega) (fun c fr e => hno ⟨c, fr, e⟩)
      · exact k2.block _ _ (h0.below hb6) (by omega) (fun c fr e => by injection e with _ e _; exact absurd e (by decide))
      · rw [HSN.out]
        refine .inr ?_
        rw [show Lib.byteCells (hbs pre ++ hb) = Lib.byteCells (hbs pre) ++ Lib.byteCells hb by simp [Lib.byteCells]]
        exact k1
    case hdone =>
      rintro xs W rfl ⟨-, h1, h3, h4⟩ hD
      rw [hbs_all] at h1
      have hpos := t.item.bytes_pos
      have hS := fun h => bstring_any W2.heap.size W2.heap.size t.item.bytes W h1 h
      have hS := hS (fun e => by rw [e] at hpos; simp at hpos)
      go_wp2_with fail
      refine hS.mono ?_
      rintro y W6 ⟨rfl, k1, k2⟩
      have k4 := k2.same _ _ hD rfl
      have k3 := h3.trans (k1.mono hws)
      rw [hsz] at k4
      go_wp2_with fail
      refine ⟨by simp, .inl ⟨_, _, rfl, run_takeDeferred k4, ?_⟩⟩
      exact ⟨_, results_tmp2 rfl _ _ _, rfl, k3.grown (grownBy_putObj' W6 _ _) (by have := k1.size; omega) (fun k q => by cases q; omega)⟩

end Go.Proofs.YtmoghgmbpkpcfaaGreatDoor
