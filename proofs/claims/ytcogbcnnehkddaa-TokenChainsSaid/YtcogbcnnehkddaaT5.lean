import Derived.Test.YtcogbcnnehkddaaT4
import Derived.Test.YtcogbcnnehkddaaCl
import Derived.Test.YtcogbcnnehkddaaSp
namespace Go.Proofs
open Go Go.Wk
theorem cl_spec {K : Key} {w : World} {h M : PH} (G : Wld K w h M) {pb : Nat} {id : Int} (k : Int) (Hb : PH.all w pb = some (.cells #[.int .i64 id] 3 (0, 0))) :
    Calls Try.prog 23 #[.int .i64 k, .pointer (some ⟨pb, 0, none⟩)] w (Ret K h M fun _ v => v = .bool (k == id)) := by
  refine enter (l := [(.int .i64 k), (.pointer (some ⟨pb, 0, none⟩))]) Try.func23 rfl Try.ntmps23 (Nat.le_of_ble_eq_true rfl) ?_
  simp only [params]
  refine CW.seq ?_
  refine CW.region ?_
  refine WL.q (.bool false) (by kernel_rfl) rfl (by kernel_rfl) (by kernel_rfl) ?_
  refine WL.nil ?_
  refine EX.then_code ?_
  refine CW.seq ?_
  refine CW.region ?_
  refine WL.q (.int .i64 k) (by kernel_rfl) rfl (by kernel_rfl) (by kernel_rfl) ?_
  refine WL.q (.int .i64 id) (by kernel_rfl) rfl (by kernel_rfl) (q_load (off := 0) rfl (by kernel_rfl) (by kernel_rfl) Hb (by kernel_rfl)) ?_
  refine WL.q (.bool ((k : Int) == id)) (by kernel_rfl) rfl (by kernel_rfl) (by kernel_rfl) ?_
  refine WL.q (.bool ((k : Int) == id)) (by kernel_rfl) rfl (by kernel_rfl) (by kernel_rfl) ?_
  refine WL.nil ?_
  refine EX.then_code ?_
  refine CW.ret ?_
  refine EX.ret1 (v := (.bool ((k : Int) == id))) rfl (by kernel_rfl) ?_
  exact Ret.mk (PH.le_refl _) G (rfl)

theorem cutT_no {K : Key} {w : World} {h M0 M : PH} (G : Wld K w h M) {p bm : Nat} {ns : List Nd} {last : Int} (T : TreeM M0 M p bm ns last) {id : Int} (hn : ∀ n ∈ ns, n.id ≠ id) :
    Calls Try.prog 12 #[.pointer (some ⟨p, 0, none⟩), .int .i64 id] w (Ret K h M fun _ v => v = .slice none 0 0) := by
  obtain ⟨es, clk, hb, hm⟩ := T.map
  have hl := ents_none hn
  refine enter (l := [(.pointer (some ⟨p, 0, none⟩)), (.int .i64 id)]) Try.func12 rfl Try.ntmps12 (Nat.le_of_ble_eq_true rfl) ?_
  simp only [params]
  refine CW.seq ?_
  refine CW.region ?_
  refine WL.newI (ob := (.cells #[(.int .i64 id)] 3)) G (by kernel_rfl) rfl (by kernel_rfl) (fun b_ => .pointer (some ⟨b_, 0, none⟩)) (fun u_ => by kernel_rfl) ?_
  intro b1 w1 i1 G1
  have hb1 := PH.set_same h b1 (.cells #[(.int .i64 id)] 3)
  have hl1 := PH.le_set (.cells #[(.int .i64 id)] 3) i1
  refine WL.q (.slice none 0 0) (by kernel_rfl) rfl (by kernel_rfl) (by kernel_rfl) ?_
  refine WL.nil ?_
  refine EX.then_code ?_
  refine CW.seq ?_
  refine CW.draw (by kernel_rfl) [(3, fun w_ => PH.all w_ p = some (rootObj bm last)), (4, fun w_ => PH.all w_ b1 = some (.cells #[(.int .i64 id)] 3)), (5, fun w_ => PH.all w_ bm = some (.map es clk))] ?_
  refine DW.take (T := fun _ => True) 0 (.pointer (some ⟨p, 0, none⟩)) rfl (by kernel_rfl) rfl (by kernel_rfl) (.inl fun _ => trivial) (by kernel_rfl) (Deaf.thens (Deaf.body RetM.not_panicked)) (fun w_ _ => (by kernel_rfl)) trivial ?_
  refine DW.take (T := fun _ => True) 1 (.pointer (some ⟨p, 0, none⟩)) rfl (by kernel_rfl) rfl (by kernel_rfl) (.inl fun _ => trivial) (by kernel_rfl) (Deaf.thens (Deaf.body RetM.not_panicked)) (fun w_ _ => (by kernel_rfl)) trivial ?_
  refine DW.take (T := fun _ => True) 2 (.pointer (some ⟨p, 0, none⟩)) rfl (by kernel_rfl) rfl (by kernel_rfl) (.inl fun _ => trivial) (by kernel_rfl) (Deaf.thens (Deaf.body RetM.not_panicked)) (fun w_ _ => (by kernel_rfl)) trivial ?_
  refine DW.take (T := fun w_ => PH.all w_ p = some (rootObj bm last)) 3 (.map (some bm)) rfl (by kernel_rfl) rfl (by kernel_rfl) (.inr (by simp only [List.mem_cons, true_or, or_true])) (by kernel_rfl) (Deaf.thens (Deaf.body RetM.not_panicked)) (fun w_ T_ => (q_load (off := 0) rfl (by kernel_rfl) (by kernel_rfl) T_ (by kernel_rfl))) ((G1.drew).own _ _ T.root) ?_
  refine DW.take (T := fun w_ => PH.all w_ b1 = some (.cells #[(.int .i64 id)] 3)) 4 (.int .i64 id) rfl (by kernel_rfl) rfl (by kernel_rfl) (.inr (by simp only [List.mem_cons, true_or, or_true])) (by kernel_rfl) (Deaf.thens (Deaf.body RetM.not_panicked)) (fun w_ T_ => (q_load (off := 0) rfl (by kernel_rfl) (by kernel_rfl) T_ (by kernel_rfl))) ((G1.drew).imm _ _ ((PH.le_refl _) _ _ hb1)) ?_
  refine DW.take (T := fun w_ => PH.all w_ bm = some (.map es clk)) 5 (.tuple #[(.pointer none), (.bool false)]) rfl (by kernel_rfl) rfl (by kernel_rfl) (.inr (by simp only [List.mem_cons, true_or, or_true])) (by kernel_rfl) (Deaf.thens (Deaf.body RetM.not_panicked)) (fun w_ T_ => (q_lookup (k := id) true rfl mapT49 (by kernel_rfl) (by kernel_rfl) T_ hm (by rw [hl]; rfl))) ((G1.drew).own _ _ hb) ?_
  refine DW.take (T := fun _ => True) 6 (.tuple #[(.pointer none), (.bool false)]) rfl (by kernel_rfl) rfl (by kernel_rfl) (.inl fun _ => trivial) (by kernel_rfl) (Deaf.thens (Deaf.body RetM.not_panicked)) (fun w_ _ => (by kernel_rfl)) trivial ?_
  refine DW.take (T := fun _ => True) 7 (.pointer none) rfl (by kernel_rfl) rfl (by kernel_rfl) (.inl fun _ => trivial) (by kernel_rfl) (Deaf.thens (Deaf.body RetM.not_panicked)) (fun w_ _ => (by kernel_rfl)) trivial ?_
  refine DW.take (T := fun _ => True) 8 (.bool false) rfl (by kernel_rfl) rfl (by kernel_rfl) (.inl fun _ => trivial) (by kernel_rfl) (Deaf.thens (Deaf.body RetM.not_panicked)) (fun w_ _ => (by kernel_rfl)) trivial ?_
  refine DW.take (T := fun _ => True) 9 (.pointer none) rfl (by kernel_rfl) rfl (by kernel_rfl) (.inl fun _ => trivial) (by kernel_rfl) (Deaf.thens (Deaf.body RetM.not_panicked)) (fun w_ _ => (by kernel_rfl)) trivial ?_
  refine DW.take (T := fun _ => True) 10 (.bool false) rfl (by kernel_rfl) rfl (by kernel_rfl) (.inl fun _ => trivial) (by kernel_rfl) (Deaf.thens (Deaf.body RetM.not_panicked)) (fun w_ _ => (by kernel_rfl)) trivial ?_
  refine DW.done (by kernel_rfl) ?_
  refine EX.then_code ?_
  refine CW.seq ?_
  refine CW.seq ?_
  refine CW.region ?_
  refine WL.q (.bool false) (by kernel_rfl) rfl (by kernel_rfl) (by kernel_rfl) ?_
  refine WL.q (.bool true) (by kernel_rfl) rfl (by kernel_rfl) (by kernel_rfl) ?_
  refine WL.nil ?_
  refine EX.then_code ?_
  refine CW.cond_t (by kernel_rfl) (by kernel_rfl) ?_
  refine CW.seq ?_
  refine CW.region ?_
  refine WL.q (.slice none 0 0) (by kernel_rfl) rfl (by kernel_rfl) (by kernel_rfl) ?_
  refine WL.nil ?_
  refine EX.then_code ?_
  refine CW.ret ?_
  refine EX.ret_then ?_
  refine EX.ret1 (v := (.slice none 0 0)) rfl (by kernel_rfl) ?_
  exact Ret.mk ((PH.le_refl _).trans hl1) (G1.drew) (rfl)

theorem cutT_yes {K : Key} {w : World} {h M0 M : PH} (G : Wld K w h M) {p bm : Nat} {ns : List Nd} {last : Int} (T : TreeM M0 M p bm ns last) {row : List Tok} (R : Rel ns row last) (hrow : row.length ≤ 4000) {n : Nd} (hn : n ∈ ns) :
    Calls Try.prog 12 #[.pointer (some ⟨p, 0, none⟩), .int .i64 n.id] w (RetM K h fun h' M' v => ∃ a, v = .slice a (idsF row [n.id]).length (idsF row [n.id]).length ∧ RS h' intE a (idsF row [n.id]) ∧ TreeA M0 M' p (cutF row [n.id]) last) := by
  obtain ⟨es, clk, hb, hm⟩ := T.map
  have hl := ents_some T.ids hn
  refine enter (l := [(.pointer (some ⟨p, 0, none⟩)), (.int .i64 n.id)]) Try.func12 rfl Try.ntmps12 (Nat.le_of_ble_eq_true rfl) ?_
  simp only [params]
  refine CW.seq ?_
  refine CW.region ?_
  refine WL.newI (ob := (.cells #[(.int .i64 n.id)] 3)) G (by kernel_rfl) rfl (by kernel_rfl) (fun b_ => .pointer (some ⟨b_, 0, none⟩)) (fun u_ => by kernel_rfl) ?_
  intro b3 w3 i3 G3
  have hb3 := PH.set_same h b3 (.cells #[(.int .i64 n.id)] 3)
  have hl3 := PH.le_set (.cells #[(.int .i64 n.id)] 3) i3
  refine WL.q (.slice none 0 0) (by kernel_rfl) rfl (by kernel_rfl) (by kernel_rfl) ?_
  refine WL.nil ?_
  refine EX.then_code ?_
  refine CW.seq ?_
  refine CW.draw (by kernel_rfl) [(3, fun w_ => PH.all w_ p = some (rootObj bm last)), (4, fun w_ => PH.all w_ b3 = some (.cells #[(.int .i64 n.id)] 3)), (5, fun w_ => PH.all w_ bm = some (.map es clk))] ?_
  refine DW.take (T := fun _ => True) 0 (.pointer (some ⟨p, 0, none⟩)) rfl (by kernel_rfl) rfl (by kernel_rfl) (.inl fun _ => trivial) (by kernel_rfl) (Deaf.thens (Deaf.body RetM.not_panicked)) (fun w_ _ => (by kernel_rfl)) trivial ?_
  refine DW.take (T := fun _ => True) 1 (.pointer (some ⟨p, 0, none⟩)) rfl (by kernel_rfl) rfl (by kernel_rfl) (.inl fun _ => trivial) (by kernel_rfl) (Deaf.thens (Deaf.body RetM.not_panicked)) (fun w_ _ => (by kernel_rfl)) trivial ?_
  refine DW.take (T := fun _ => True) 2 (.pointer (some ⟨p, 0, none⟩)) rfl (by kernel_rfl) rfl (by kernel_rfl) (.inl fun _ => trivial) (by kernel_rfl) (Deaf.thens (Deaf.body RetM.not_panicked)) (fun w_ _ => (by kernel_rfl)) trivial ?_
  refine DW.take (T := fun w_ => PH.all w_ p = some (rootObj bm last)) 3 (.map (some bm)) rfl (by kernel_rfl) rfl (by kernel_rfl) (.inr (by simp only [List.mem_cons, true_or, or_true])) (by kernel_rfl) (Deaf.thens (Deaf.body RetM.not_panicked)) (fun w_ T_ => (q_load (off := 0) rfl (by kernel_rfl) (by kernel_rfl) T_ (by kernel_rfl))) ((G3.drew).own _ _ T.root) ?_
  refine DW.take (T := fun w_ => PH.all w_ b3 = some (.cells #[(.int .i64 n.id)] 3)) 4 (.int .i64 n.id) rfl (by kernel_rfl) rfl (by kernel_rfl) (.inr (by simp only [List.mem_cons, true_or, or_true])) (by kernel_rfl) (Deaf.thens (Deaf.body RetM.not_panicked)) (fun w_ T_ => (q_load (off := 0) rfl (by kernel_rfl) (by kernel_rfl) T_ (by kernel_rfl))) ((G3.drew).imm _ _ ((PH.le_refl _) _ _ hb3)) ?_
  refine DW.take (T := fun w_ => PH.all w_ bm = some (.map es clk)) 5 (.tuple #[(.pointer (some ⟨n.b, 0, none⟩)), (.bool true)]) rfl (by kernel_rfl) rfl (by kernel_rfl) (.inr (by simp only [List.mem_cons, true_or, or_true])) (by kernel_rfl) (Deaf.thens (Deaf.body RetM.not_panicked)) (fun w_ T_ => (q_lookup (k := n.id) true rfl mapT49 (by kernel_rfl) (by kernel_rfl) T_ hm (by rw [hl]; rfl))) ((G3.drew).own _ _ hb) ?_
  refine DW.take (T := fun _ => True) 6 (.tuple #[(.pointer (some ⟨n.b, 0, none⟩)), (.bool true)]) rfl (by kernel_rfl) rfl (by kernel_rfl) (.inl fun _ => trivial) (by kernel_rfl) (Deaf.thens (Deaf.body RetM.not_panicked)) (fun w_ _ => (by kernel_rfl)) trivial ?_
  refine DW.take (T := fun _ => True) 7 (.pointer (some ⟨n.b, 0, none⟩)) rfl (by kernel_rfl) rfl (by kernel_rfl) (.inl fun _ => trivial) (by kernel_rfl) (Deaf.thens (Deaf.body RetM.not_panicked)) (fun w_ _ => (by kernel_rfl)) trivial ?_
  refine DW.take (T := fun _ => True) 8 (.bool true) rfl (by kernel_rfl) rfl (by kernel_rfl) (.inl fun _ => trivial) (by kernel_rfl) (Deaf.thens (Deaf.body RetM.not_panicked)) (fun w_ _ => (by kernel_rfl)) trivial ?_
  refine DW.take (T := fun _ => True) 9 (.pointer (some ⟨n.b, 0, none⟩)) rfl (by kernel_rfl) rfl (by kernel_rfl) (.inl fun _ => trivial) (by kernel_rfl) (Deaf.thens (Deaf.body RetM.not_panicked)) (fun w_ _ => (by kernel_rfl)) trivial ?_
  refine DW.take (T := fun _ => True) 10 (.bool true) rfl (by kernel_rfl) rfl (by kernel_rfl) (.inl fun _ => trivial) (by kernel_rfl) (Deaf.thens (Deaf.body RetM.not_panicked)) (fun w_ _ => (by kernel_rfl)) trivial ?_
  refine DW.done (by kernel_rfl) ?_
  refine EX.then_code ?_
  refine CW.seq ?_
  refine CW.seq ?_
  refine CW.region ?_
  refine WL.q (.bool true) (by kernel_rfl) rfl (by kernel_rfl) (by kernel_rfl) ?_
  refine WL.q (.bool false) (by kernel_rfl) rfl (by kernel_rfl) (by kernel_rfl) ?_
  refine WL.nil ?_
  refine EX.then_code ?_
  refine CW.cond_f (by kernel_rfl) (by kernel_rfl) ?_
  refine CW.skip ?_
  refine EX.then_code ?_
  refine CW.seq ?_
  refine CW.region ?_
  refine WL.q (.pointer (some ⟨p, 0, none⟩)) (by kernel_rfl) rfl (by kernel_rfl) (by kernel_rfl) ?_
  refine WL.q (.int .i64 n.id) (by kernel_rfl) rfl (by kernel_rfl) (q_load (off := 0) rfl (by kernel_rfl) (by kernel_rfl) ((G3.drew).imm _ _ ((PH.le_refl _) _ _ hb3)) (by kernel_rfl)) ?_
  refine WL.call (by kernel_rfl) rfl (by kernel_rfl) (by kernel_rfl) (under_spec R.wf hrow n.id (G3.drew) T (R.hex hn)) (RetM.elim ?_)
  rintro w5 h5 M5 _ l5 G5 ⟨a5, k5, out, Mt5, rfl, T1, o5, hon, hom⟩
  have hol := Blw.len hon hom
  refine WL.q (.slice a5 out.length k5) (by kernel_rfl) rfl (by kernel_rfl) (by kernel_rfl) ?_
  refine WL.nil ?_
  refine EX.then_code ?_
  refine CW.seq ?_
  refine CW.seq ?_
  refine CW.region ?_
  refine WL.q (.int .i64 n.id) (by kernel_rfl) rfl (by kernel_rfl) (q_load (off := 0) rfl (by kernel_rfl) (by kernel_rfl) (G5.imm _ _ (((PH.le_refl _).trans l5) _ _ hb3)) (by kernel_rfl)) ?_
  refine WL.q (.bool ((n.id : Int) != 0)) (by kernel_rfl) rfl (by kernel_rfl) (by kernel_rfl) ?_
  refine WL.nil ?_
  refine EX.then_code ?_
  refine CW.cond ((n.id : Int) != 0) (by kernel_rfl) (by kernel_rfl) (fun c6 => ?_) (fun c6 => ?_)
  ·
    skip
    have d7 := bne_true c6
    refine CW.seq ?_
    have hid0 : n.id ≠ 0 := by assumption
    obtain ⟨q, hqm, hqid⟩ := R.parent hn hom hid0
    obtain ⟨es8, clk8, hb8, hm8⟩ := T1.map
    have hn1 := clr_node (ns := ns) (out := out) hn (fun h => by have := ((hom _).1 h).lt R.wf; omega)
    have hlq : (ents (clr n.id (keep ns out))).lookup n.parent = some (.pointer (some ⟨q.b, 0, none⟩)) := by rw [← hqid]; exact ents_some T1.ids hqm
    refine CW.draw (by kernel_rfl) [(3, fun w_ => PH.all w_ p = some (rootObj bm last)), (7, fun w_ => PH.all w_ n.b = some (nodeObj { n with kids := [], ka := none, kc := 0 })), (8, fun w_ => PH.all w_ bm = some (.map es8 clk8))] ?_
    refine DW.take (T := fun _ => True) 0 (.pointer (some ⟨p, 0, none⟩)) rfl (by kernel_rfl) rfl (by kernel_rfl) (.inl fun _ => trivial) (by kernel_rfl) (Deaf.thens (Deaf.thens (Deaf.body RetM.not_panicked))) (fun w_ _ => (by kernel_rfl)) trivial ?_
    refine DW.take (T := fun _ => True) 1 (.pointer (some ⟨p, 0, none⟩)) rfl (by kernel_rfl) rfl (by kernel_rfl) (.inl fun _ => trivial) (by kernel_rfl) (Deaf.thens (Deaf.thens (Deaf.body RetM.not_panicked))) (fun w_ _ => (by kernel_rfl)) trivial ?_
    refine DW.take (T := fun _ => True) 2 (.pointer (some ⟨p, 0, none⟩)) rfl (by kernel_rfl) rfl (by kernel_rfl) (.inl fun _ => trivial) (by kernel_rfl) (Deaf.thens (Deaf.thens (Deaf.body RetM.not_panicked))) (fun w_ _ => (by kernel_rfl)) trivial ?_
    refine DW.take (T := fun w_ => PH.all w_ p = some (rootObj bm last)) 3 (.map (some bm)) rfl (by kernel_rfl) rfl (by kernel_rfl) (.inr (by simp only [List.mem_cons, true_or, or_true])) (by kernel_rfl) (Deaf.thens (Deaf.thens (Deaf.body RetM.not_panicked))) (fun w_ T_ => (q_load (off := 0) rfl (by kernel_rfl) (by kernel_rfl) T_ (by kernel_rfl))) ((G5.drew).own _ _ (o5.le _ _ T1.root)) ?_
    refine DW.take (T := fun _ => True) 4 (.pointer (some ⟨n.b, 0, none⟩)) rfl (by kernel_rfl) rfl (by kernel_rfl) (.inl fun _ => trivial) (by kernel_rfl) (Deaf.thens (Deaf.thens (Deaf.body RetM.not_panicked))) (fun w_ _ => (by kernel_rfl)) trivial ?_
    refine DW.take (T := fun _ => True) 5 (.pointer (some ⟨n.b, 0, none⟩)) rfl (by kernel_rfl) rfl (by kernel_rfl) (.inl fun _ => trivial) (by kernel_rfl) (Deaf.thens (Deaf.thens (Deaf.body RetM.not_panicked))) (fun w_ _ => (by kernel_rfl)) trivial ?_
    refine DW.take (T := fun _ => True) 6 (.pointer (some ⟨n.b, 0, none⟩)) rfl (by kernel_rfl) rfl (by kernel_rfl) (.inl fun _ => trivial) (by kernel_rfl) (Deaf.thens (Deaf.thens (Deaf.body RetM.not_panicked))) (fun w_ _ => (by kernel_rfl)) trivial ?_
    refine DW.take (T := fun w_ => PH.all w_ n.b = some (nodeObj { n with kids := [], ka := none, kc := 0 })) 7 (.int .i64 n.parent) rfl (by kernel_rfl) rfl (by kernel_rfl) (.inr (by simp only [List.mem_cons, true_or, or_true])) (by kernel_rfl) (Deaf.thens (Deaf.thens (Deaf.body RetM.not_panicked))) (fun w_ T_ => (q_load (off := 0) rfl (by kernel_rfl) (by kernel_rfl) T_ (by kernel_rfl))) ((G5.drew).own _ _ (o5.le _ _ ((T1.nodes _ hn1).1))) ?_
    refine DW.take (T := fun w_ => PH.all w_ bm = some (.map es8 clk8)) 8 (.pointer (some ⟨q.b, 0, none⟩)) rfl (by kernel_rfl) rfl (by kernel_rfl) (.inr (by simp only [List.mem_cons, true_or, or_true])) (by kernel_rfl) (Deaf.thens (Deaf.thens (Deaf.body RetM.not_panicked))) (fun w_ T_ => (q_lookup (k := n.parent) false rfl mapT49 (by kernel_rfl) (by kernel_rfl) T_ hm8 (by rw [hlq]; rfl))) ((G5.drew).own _ _ (o5.le _ _ hb8)) ?_
    refine DW.take (T := fun _ => True) 9 (.pointer (some ⟨q.b, 0, none⟩)) rfl (by kernel_rfl) rfl (by kernel_rfl) (.inl fun _ => trivial) (by kernel_rfl) (Deaf.thens (Deaf.thens (Deaf.body RetM.not_panicked))) (fun w_ _ => (by kernel_rfl)) trivial ?_
    refine DW.done (by kernel_rfl) ?_
    refine EX.then_code ?_
    refine CW.seq ?_
    refine CW.region ?_
    refine WL.q (.pointer (some ⟨q.b, 0, none⟩)) (by kernel_rfl) rfl (by kernel_rfl) (by kernel_rfl) ?_
    refine WL.q (.pointer (some ⟨q.b, 0, none⟩)) (by kernel_rfl) rfl (by kernel_rfl) (by kernel_rfl) ?_
    refine WL.q (.pointer (some ⟨q.b, 0, none⟩)) (by kernel_rfl) rfl (by kernel_rfl) (by kernel_rfl) ?_
    refine WL.q (.pointer (some ⟨q.b, 2, none⟩)) (by kernel_rfl) rfl (by kernel_rfl) (by kernel_rfl) ?_
    refine WL.q (.slice q.ka q.kids.length q.kc) (by kernel_rfl) rfl (by kernel_rfl) (q_load (off := 2) rfl (by kernel_rfl) (by kernel_rfl) ((G5.drew).own _ _ (o5.le _ _ ((T1.nodes _ hqm).1))) (by kernel_rfl)) ?_
    refine WL.q (.func (.func 23) #[] #[(.pointer (some ⟨b3, 0, none⟩))]) (by kernel_rfl) rfl (by kernel_rfl) (by kernel_rfl) ?_
    obtain ⟨N10, o10, T10⟩ := T1.lift o5
    have owq := (T10.kids hqm).1
    refine WL.call (by kernel_rfl) rfl (by kernel_rfl) (by kernel_rfl) (del_spec (G5.drew) owq (by have := R.klen hqm; omega) 23 #[.pointer (some ⟨b3, 0, none⟩)] (fun k => (k == n.id)) (enters_of Try.func23 (by kernel_rfl) rfl) (fun k _ w' h' M' hl' g' => cl_spec g' k (g'.imm _ _ (hl' _ _ (((PH.le_refl _).trans l5) _ _ hb3))))) (RetM.elim ?_)
    rintro w11 h11 M11 _ l11 G11 ⟨rfl, oq11⟩
    refine WL.q (.pointer (some ⟨q.b, 0, none⟩)) (by kernel_rfl) rfl (by kernel_rfl) (by kernel_rfl) ?_
    refine WL.q (.pointer (some ⟨q.b, 2, none⟩)) (by kernel_rfl) rfl (by kernel_rfl) (by kernel_rfl) ?_
    obtain ⟨lq, rq, hlr⟩ := List.append_of_mem hqm
    have T2 := hlr ▸ T10
    obtain ⟨hMq, T3⟩ := T2.upd oq11
    refine WL.store #[(.int .i64 q.parent), (.int .i64 q.fact), (.slice q.ka ((q.kids.filter fun k => !(k == n.id)).length) q.kc)] (et := 48) (v := (.slice q.ka ((q.kids.filter fun k => !(k == n.id)).length) q.kc)) (vs := [(.slice q.ka ((q.kids.filter fun k => !(k == n.id)).length) q.kc)]) (off := 2) G11 hMq rfl (by kernel_rfl) (by kernel_rfl) rfl (by kernel_rfl) (by kernel_rfl) (by kernel_rfl) (by kernel_rfl) (by simp [Value.oneCell']) (by simp) (by kernel_rfl) ?_
    intro w12 G12
    obtain ⟨es13, clk13, hb13, hm13⟩ := T3.map
    refine WL.nil ?_
    refine EX.then_code ?_
    refine CW.seq ?_
    refine CW.draw (by kernel_rfl) [(3, fun w_ => PH.all w_ p = some (rootObj bm last)), (4, fun w_ => PH.all w_ b3 = some (.cells #[(.int .i64 n.id)] 3))] ?_
    refine DW.take (T := fun _ => True) 0 (.pointer (some ⟨p, 0, none⟩)) rfl (by kernel_rfl) rfl (by kernel_rfl) (.inl fun _ => trivial) (by kernel_rfl) (Deaf.thens (Deaf.thens (Deaf.body RetM.not_panicked))) (fun w_ _ => (by kernel_rfl)) trivial ?_
    refine DW.take (T := fun _ => True) 1 (.pointer (some ⟨p, 0, none⟩)) rfl (by kernel_rfl) rfl (by kernel_rfl) (.inl fun _ => trivial) (by kernel_rfl) (Deaf.thens (Deaf.thens (Deaf.body RetM.not_panicked))) (fun w_ _ => (by kernel_rfl)) trivial ?_
    refine DW.take (T := fun _ => True) 2 (.pointer (some ⟨p, 0, none⟩)) rfl (by kernel_rfl) rfl (by kernel_rfl) (.inl fun _ => trivial) (by kernel_rfl) (Deaf.thens (Deaf.thens (Deaf.body RetM.not_panicked))) (fun w_ _ => (by kernel_rfl)) trivial ?_
    refine DW.take (T := fun w_ => PH.all w_ p = some (rootObj bm last)) 3 (.map (some bm)) rfl (by kernel_rfl) rfl (by kernel_rfl) (.inr (by simp only [List.mem_cons, true_or, or_true])) (by kernel_rfl) (Deaf.thens (Deaf.thens (Deaf.body RetM.not_panicked))) (fun w_ T_ => (q_load (off := 0) rfl (by kernel_rfl) (by kernel_rfl) T_ (by kernel_rfl))) ((G12.drew).own _ _ T3.root) ?_
    refine DW.take (T := fun w_ => PH.all w_ b3 = some (.cells #[(.int .i64 n.id)] 3)) 4 (.int .i64 n.id) rfl (by kernel_rfl) rfl (by kernel_rfl) (.inr (by simp only [List.mem_cons, true_or, or_true])) (by kernel_rfl) (Deaf.thens (Deaf.thens (Deaf.body RetM.not_panicked))) (fun w_ T_ => (q_load (off := 0) rfl (by kernel_rfl) (by kernel_rfl) T_ (by kernel_rfl))) ((G12.drew).imm _ _ ((((PH.le_refl _).trans l5).trans l11) _ _ hb3)) ?_
    refine DW.only 5 (by kernel_rfl) ?_
    refine DOp.delete (k := (n.id : Int)) (G12.drew) hb13 hm13 rfl rfl mapT49 (by kernel_rfl) (by kernel_rfl) (by kernel_rfl) rfl (by kernel_rfl) (fun w_ M_ G_ => ⟨.inl (by kernel_rfl), .inl (by kernel_rfl), trivial⟩) ?_
    intro w15 es' G15 hm'
    obtain ⟨M15, hle15, T4⟩ := T3.del hm'
    obtain ⟨N16, T16, o16⟩ := TreeM.sink o10 T4
    refine DW.done (by kernel_rfl) ?_
    refine EX.then_code ?_
    refine CW.region ?_
    refine WL.q (.slice a5 out.length k5) (by kernel_rfl) rfl (by kernel_rfl) (by kernel_rfl) ?_
    refine WL.q (.int .i64 n.id) (by kernel_rfl) rfl (by kernel_rfl) (q_load (off := 0) rfl (by kernel_rfl) (by kernel_rfl) ((G15.drop hle15).imm _ _ ((((PH.le_refl _).trans l5).trans l11) _ _ hb3)) (by kernel_rfl)) ?_
    refine WL.new (ob := (.cells #[(.int .i64 n.id)] 3)) (G15.drop hle15) (by kernel_rfl) rfl (by kernel_rfl) (fun b_ => .slice (some ⟨b_, 0, none⟩) 1 1) (fun u_ => by kernel_rfl) ?_
    intro b17 w17 n17 i17 G17
    refine WL.append (e := 3) (bytes := 8) (cap := k5) (c2 := 1) (M0 := N16) (xs := out) (ys := ([n.id])) G17 (PH.le_set _ n17) o16 (PH.le_refl _) (RS.blk (E := intE) (xs := [n.id]) (G17.own _ _ (PH.set_same _ _ _)) (by kernel_rfl)) rfl (by kernel_rfl) (by kernel_rfl) rfl (by kernel_rfl) (by kernel_rfl) (by kernel_rfl) (by first | (simp only [maxLen, List.length_append, List.length_cons, List.length_nil]; omega) | (simp only [maxLen]; omega)) (by first | omega | (simp only [List.length_append, List.length_cons, List.length_nil]; omega)) ?_
    intro a18 k18 w18 M18 G18 o18 z18
    refine WL.q (.slice a18 ((out ++ ([n.id])).length) k18) (by kernel_rfl) rfl (by kernel_rfl) (by kernel_rfl) ?_
    refine WL.nil ?_
    refine EX.then_code ?_
    refine CW.seq ?_
    refine CW.region ?_
    refine WL.q (.slice a18 ((out ++ ([n.id])).length) k18) (by kernel_rfl) rfl (by kernel_rfl) (by kernel_rfl) ?_
    refine WL.call (by kernel_rfl) rfl (by kernel_rfl) (by kernel_rfl) (sort_spec G18 o18 (by first | omega | (simp only [List.length_append, List.length_cons, List.length_nil]; omega))) (RetM.elim ?_)
    rintro w19 h19 M19 _ l19 G19 ⟨rfl, o19⟩
    have hsl19 := sortInts_len (out ++ ([n.id]))
    refine WL.nil ?_
    refine EX.then_code ?_
    refine CW.seq ?_
    refine CW.region ?_
    refine WL.q (.slice a18 ((out ++ ([n.id])).length) k18) (by kernel_rfl) rfl (by kernel_rfl) (by kernel_rfl) ?_
    refine WL.call (by kernel_rfl) rfl (by kernel_rfl) (by kernel_rfl) (clip_spec (a := a18) (m := ((out ++ ([n.id])).length)) (c := k18) G19 (by have q_ := o19.cap_le; first | omega | (simp only [List.length_append, List.length_cons, List.length_nil] at *; omega))) (Ret.elim ?_)
    rintro w20 h20 _ l20 G20 rfl
    refine WL.q (.slice a18 ((out ++ ([n.id])).length) ((out ++ ([n.id])).length)) (by kernel_rfl) rfl (by kernel_rfl) (by kernel_rfl) ?_
    refine WL.nil ?_
    refine EX.then_code ?_
    refine CW.ret ?_
    refine EX.ret1 (v := (.slice a18 ((out ++ ([n.id])).length) ((out ++ ([n.id])).length))) rfl (by kernel_rfl) ?_
    obtain ⟨h21, l21, G21, r21⟩ := o19.freeze G20
    have hfin := idsF_sorted R.wf (g := [n.id]) (out := out ++ [n.id]) (R.outNd hom hon) (R.outMem hn hom hid0)
    have hR := R.cutTok hn hid0 T.ids hom hlr hqid T4.ids
    have hfin2 : sortInts (out ++ [n.id]) = idsF row [n.id] := hfin
    exact RetM.mk (((((((PH.le_refl _).trans hl3).trans l5).trans l11).trans l19).trans l20).trans l21) G21 ⟨_, by rw [← hfin2, hsl19], hfin2 ▸ r21, _, _, T16, hR⟩
  ·
    skip
    have d22 := bne_false c6
    refine CW.skip ?_
    refine EX.then_code ?_
    refine CW.seq ?_
    refine CW.region ?_
    refine WL.q (.slice a5 out.length k5) (by kernel_rfl) rfl (by kernel_rfl) (by kernel_rfl) ?_
    refine WL.call (by kernel_rfl) rfl (by kernel_rfl) (by kernel_rfl) (sort_spec G5 o5 (by first | omega | (simp only [List.length_append, List.length_cons, List.length_nil]; omega))) (RetM.elim ?_)
    rintro w23 h23 M23 _ l23 G23 ⟨rfl, o23⟩
    have hsl23 := sortInts_len out
    refine WL.nil ?_
    refine EX.then_code ?_
    refine CW.seq ?_
    refine CW.region ?_
    refine WL.q (.slice a5 out.length k5) (by kernel_rfl) rfl (by kernel_rfl) (by kernel_rfl) ?_
    refine WL.call (by kernel_rfl) rfl (by kernel_rfl) (by kernel_rfl) (clip_spec (a := a5) (m := out.length) (c := k5) G23 (by have q_ := o23.cap_le; first | omega | (simp only [List.length_append, List.length_cons, List.length_nil] at *; omega))) (Ret.elim ?_)
    rintro w24 h24 _ l24 G24 rfl
    refine WL.q (.slice a5 out.length out.length) (by kernel_rfl) rfl (by kernel_rfl) (by kernel_rfl) ?_
    refine WL.nil ?_
    refine EX.then_code ?_
    refine CW.ret ?_
    refine EX.ret1 (v := (.slice a5 out.length out.length)) rfl (by kernel_rfl) ?_
    obtain ⟨h25, l25, G25, r25⟩ := o23.freeze G24
    have hz : n.id = 0 := by omega
    have hfin := idsF_sorted R.wf (g := [0]) (out := out) hon (R.outMem0 (hz ▸ hom))
    have hT := T1
    rw [hz] at hT
    have hR := R.cutRoot (hz ▸ hom) hT.ids
    rw [hz]
    have hfin2 : sortInts out = idsF row [0] := hfin
    exact RetM.mk ((((((PH.le_refl _).trans hl3).trans l5).trans l23).trans l24).trans l25) G25 ⟨_, by rw [← hfin2, hsl23], hfin2 ▸ r25, _, _, hT, hR⟩
end Go.Proofs
