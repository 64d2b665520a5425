import Derived.Test.YthlcldgcjilfcaaS2
namespace Go.Proofs
open Go Go.Wk
/-- What is still used of all that came. -/
def sweepC (rs : List RowD) (came : List WhyD) : List WhyD := came.filter (usedR rs)
theorem sweep_eq (rs : List RowD) (came : List WhyD) : (came.filter fun x => !(fun y => !usedR rs y) x) = sweepC rs came := by
  unfold sweepC; congr 1; funext x; simp
theorem map_ent_set {rs : List RowD} {k : Nat} {r : RowD} (hp : r.p = (rs.getD k rowD0).p) (hf : r.fact = (rs.getD k rowD0).fact) : (rs.set k r).map rowEnt = rs.map rowEnt := by
  apply List.ext_getElem?
  intro i
  simp only [List.getElem?_map, List.getElem?_set]
  split
  · rename_i e; subst e
    split
    · rename_i hk; simp [List.getD, hk] at hp hf; simp [rowEnt, hp, hf, hk]
    · rename_i hk; simp [List.getElem?_eq_none (by omega : rs.length ≤ k)]
  · rfl
theorem map_fact_set {rs : List RowD} {k : Nat} {r : RowD} (hf : r.fact = (rs.getD k rowD0).fact) : (rs.set k r).map (·.fact) = rs.map (·.fact) := by
  apply List.ext_getElem?
  intro i
  simp only [List.getElem?_map, List.getElem?_set]
  split
  · rename_i e; subst e
    split
    · rename_i hk; simp [List.getD, hk] at hf; simp [hf, hk]
    · rename_i hk; simp [List.getElem?_eq_none (by omega : rs.length ≤ k)]
  · rfl
theorem OfIs.ok {h : PH} {rs rs' : List RowD} {f : Int} {k n : Nat} {came : List WhyD} (ok : TabOk h rs came n) (hf : -9223372036854775808 ≤ f ∧ f ≤ 9223372036854775807) (o : OfIs rs f rs' k) : TabOk h rs' came (n + 1) := by
  rcases o with ⟨rfl, h1, h2⟩ | ⟨hn, p, rfl, rfl⟩
  · exact { ok with len := Nat.le_succ_of_le ok.len, lens := fun r hr => Nat.le_succ_of_le (ok.lens r hr), lenc := Nat.le_succ_of_le ok.lenc }
  · refine ⟨fun r hr => ?_, ok.all, ?_, fun r hr => ?_, ?_, fun r hr => ?_, Nat.le_succ_of_le ok.lenc⟩
    · rcases List.mem_append.1 hr with hr | hr
      · exact ok.rows r hr
      · simp only [List.mem_cons, List.not_mem_nil, or_false] at hr; subst hr; simp
    · rw [List.map_append, List.nodup_append]
      refine ⟨ok.nodup, by simp, ?_⟩
      intro a ha b hb
      simp only [List.map_cons, List.map_nil, List.mem_cons, List.not_mem_nil, or_false] at hb
      subst hb
      obtain ⟨r, hr, rfl⟩ := List.mem_map.1 ha
      exact hn r hr
    · rcases List.mem_append.1 hr with hr | hr
      · exact ok.i64 r hr
      · simp only [List.mem_cons, List.not_mem_nil, or_false] at hr; subst hr; exact hf
    · simp only [List.length_append, List.length_cons, List.length_nil]; have := ok.len; omega
    · rcases List.mem_append.1 hr with hr | hr
      · exact Nat.le_succ_of_le (ok.lens r hr)
      · simp only [List.mem_cons, List.not_mem_nil, or_false] at hr; subst hr; simp
theorem OfIs.lw {h : PH} {rs rs' : List RowD} {f : Int} {k n : Nat} {came : List WhyD} (ok : TabOk h rs came n) (o : OfIs rs f rs' k) : (rs'.getD k rowD0).ws.length ≤ n := by
  rcases o with ⟨rfl, h1, h2⟩ | ⟨hn, p, rfl, rfl⟩
  · exact ok.lens _ (getD_mem (d := rowD0) h1)
  · simp
theorem mem_set {rs : List RowD} {k : Nat} {r x : RowD} (h : x ∈ rs.set k r) : x ∈ rs ∨ x = r := List.mem_or_eq_of_mem_set h
theorem TabOk.row {h : PH} {rs : List RowD} {came came' : List WhyD} {k n n' : Nat} (ok : TabOk h rs came n) (hk : k < rs.length) {r' : RowD} (hf : r'.fact = (rs.getD k rowD0).fact) (hw : ∀ w ∈ r'.ws, whyG h w) (hn : n ≤ n') (hl : r'.ws.length ≤ n')
    (hc : ∀ w ∈ came', whyG h w) (hcl : came'.length ≤ n') : TabOk h (rs.set k r') came' n' := by
  have hm := getD_mem (d := rowD0) hk
  refine ⟨fun r hr => ?_, hc, ?_, fun r hr => ?_, by rw [List.length_set]; exact Nat.le_trans ok.len hn, fun r hr => ?_, hcl⟩
  · rcases mem_set hr with hr | rfl
    · exact ok.rows r hr
    · exact hw
  · rw [map_fact_set hf]; exact ok.nodup
  · rcases mem_set hr with hr | rfl
    · exact ok.i64 r hr
    · rw [hf]; exact ok.i64 _ hm
  · rcases mem_set hr with hr | rfl
    · exact Nat.le_trans (ok.lens r hr) hn
    · exact hl

theorem sweepC_spec {K : Key} {w : World} {h M0 M Mt : PH} (G : Wld K w h M) {t : Nat} {cv : Value} {rs : List RowD} (A : HeadL t cv rs M0 Mt) (hM : PH.le Mt M) (ok1 : ∀ r ∈ rs, ∀ w ∈ r.ws, whyG h w) (ok2 : ∀ r ∈ rs, r.ws.length ≤ 1000) {y : WhyD} (gy : whyG h y) {b : Nat} (hb : h b = some (.cells #[.pointer (some ⟨t, 0, none⟩)] 24 (0, 0))) :
    Calls Try.prog 36 #[.agg (whyE.enc y).toArray, .pointer (some ⟨b, 0, none⟩)] w (Ret K h M fun _ v => v = .bool (!usedR rs y)) := by
  refine enter (l := [(.agg #[(.int .i64 ((y).rule)), (.int .i64 ((y).alt)), (.slice ((y).a) ((y).facts.length) ((y).c))]), (.pointer (some ⟨b, 0, none⟩))]) Try.func36 rfl Try.ntmps36 (Nat.le_of_ble_eq_true rfl) ?_
  simp only [params]
  refine CW.seq ?_
  refine CW.region ?_
  refine WL.ex (by kernel_rfl) rfl (by kernel_rfl) (q_newF (ob := (.cells #[(.int .i64 ((y).rule)), (.int .i64 ((y).alt)), (.slice ((y).a) ((y).facts.length) ((y).c))] 28 (0, 0))) G (fun b_ => .pointer (some ⟨b_, 0, none⟩)) (fun u_ => by kernel_rfl)) ?_
  rintro _ w1 ⟨b1, h1, rfl, l1, G1, hb1, L1⟩
  refine WL.q (.bool false) (by kernel_rfl) rfl (by kernel_rfl) (by kernel_rfl) ?_
  refine WL.nil ?_
  refine EX.then_code ?_
  refine CW.seq ?_
  refine CW.region ?_
  refine WL.q (.pointer (some ⟨t, 0, none⟩)) (by kernel_rfl) rfl (by kernel_rfl) (q_load (off := 0) rfl (by kernel_rfl) (by kernel_rfl) (G1.imm _ _ (l1 _ _ hb)) (by kernel_rfl)) ?_
  refine WL.q (.agg #[(.int .i64 ((y).rule)), (.int .i64 ((y).alt)), (.slice ((y).a) ((y).facts.length) ((y).c))]) (by kernel_rfl) rfl (by kernel_rfl) (q_loadAgg (off := 0) (vs := [(.int .i64 ((y).rule)), (.int .i64 ((y).alt)), (.slice ((y).a) ((y).facts.length) ((y).c))]) rfl (by kernel_rfl) (by kernel_rfl) (G1.imm _ _ ((PH.le_refl _) _ _ hb1)) (agg_at (by kernel_rfl))) ?_
  refine WL.call (by kernel_rfl) rfl (by kernel_rfl) (by kernel_rfl) (used_spec G1 A hM (fun r hr w hw => whyG.mono l1 _ (ok1 r hr w hw)) ok2 (y := y) (whyG.mono l1 _ gy)) (Ret.elim ?_)
  rintro w2 h2 _ l2 G2 rfl
  refine WL.q (.bool (!(usedR rs y))) (by kernel_rfl) rfl (by kernel_rfl) (by kernel_rfl) ?_
  refine WL.q (.bool (!(usedR rs y))) (by kernel_rfl) rfl (by kernel_rfl) (by kernel_rfl) ?_
  refine WL.nil ?_
  refine EX.then_code ?_
  refine CW.ret ?_
  refine EX.ret1 (v := (.bool (!(usedR rs y)))) rfl (by kernel_rfl) ?_
  exact Ret.mk (l1.trans l2) G2 rfl

theorem ent36 : Enters Try.prog 36 := fun _ _ => by kernel_rfl

theorem sw_del {K : Key} {w : World} {h M : PH} (G : Wld K w h M) {M0 : PH} {a : Option Addr} {rs : List RowD} {xs : List WhyD} {c : Nat} (own : Own 28 whyO M0 M a c xs) (hb : xs.length ≤ 1000000) (fid : FuncId) (caps : Array Value) (p : WhyD → Bool) (he : Enters Try.prog fid)
    (hf : ∀ x ∈ xs, ∀ w' h' M', PH.le h h' → PH.le M0 M' → Wld K w' h' M' → Calls Try.prog fid (#[.agg (whyE.enc x).toArray] ++ caps) w' (Ret K h' M' fun _ v => v = .bool (p x))) (hp : p = fun y => !usedR rs y) :
    Calls Try.prog 30 #[.slice a xs.length c, .func (.func fid) #[] caps] w (RetM K h fun h' M' v => v = .slice a (sweepC rs xs).length c ∧ Own 28 whyO M0 M' a c (sweepC rs xs)) := by
  subst hp
  have := del_spec G own hb fid caps _ he hf
  rw [sweep_eq] at this
  exact this

theorem sweep_spec {K : Key} {w : World} {h M0 M : PH} (G : Wld K w h M) {t : Nat} {rs : List RowD} {came : List WhyD} {n : Nat} (A : TabL h t rs came n M0 M) (hb : n ≤ 1000) :
    Calls Try.prog 27 #[.pointer (some ⟨t, 0, none⟩)] w (RetM K h fun h' M' v => v = .tuple #[] ∧ TabL h' t rs (sweepC rs came) n M0 M') := by
  obtain ⟨ca, cc, Mr, ⟨bm, es, clk, Ma, Mb, Bt, Bm, Rs, mi⟩, Oc, ok⟩ := A
  refine enter (l := [(.pointer (some ⟨t, 0, none⟩))]) Try.func27 rfl Try.ntmps27 (Nat.le_of_ble_eq_true rfl) ?_
  simp only [params]
  refine CW.seq ?_
  refine CW.region ?_
  refine WL.ex (by kernel_rfl) rfl (by kernel_rfl) (q_newF (ob := (.cells #[(.pointer (some ⟨t, 0, none⟩))] 24 (0, 0))) G (fun b_ => .pointer (some ⟨b_, 0, none⟩)) (fun u_ => by kernel_rfl)) ?_
  rintro _ w3 ⟨b3, h3, rfl, l3, G3, hb3, L3⟩
  refine WL.nil ?_
  refine EX.then_code ?_
  refine CW.draw (by kernel_rfl) [(0, fun w_ => PH.all w_ b3 = some (.cells #[(.pointer (some ⟨t, 0, none⟩))] 24 (0, 0))), (1, fun w_ => PH.all w_ b3 = some (.cells #[(.pointer (some ⟨t, 0, none⟩))] 24 (0, 0))), (4, fun w_ => PH.all w_ t = some (.cells #[.map (some bm), (.slice ca came.length cc)] 53 (0, 0)))] ?_
  refine DW.take (T := fun w_ => PH.all w_ b3 = some (.cells #[(.pointer (some ⟨t, 0, none⟩))] 24 (0, 0))) 0 (.pointer (some ⟨t, 0, none⟩)) rfl (by kernel_rfl) rfl (by kernel_rfl) (.inr (by first | exact .head _ | exact .tail _ (.head _) | exact .tail _ (.tail _ (.head _)) | exact .tail _ (.tail _ (.tail _ (.head _))) | simp)) (by kernel_rfl) (Deaf.body RetM.not_panicked) (fun w_ T_ => (q_load (off := 0) rfl (by kernel_rfl) (by kernel_rfl) T_ (by kernel_rfl))) ((G3.drew).imm _ _ ((PH.le_refl _) _ _ hb3)) ?_
  refine DW.take (T := fun w_ => PH.all w_ b3 = some (.cells #[(.pointer (some ⟨t, 0, none⟩))] 24 (0, 0))) 1 (.pointer (some ⟨t, 0, none⟩)) rfl (by kernel_rfl) rfl (by kernel_rfl) (.inr (by first | exact .head _ | exact .tail _ (.head _) | exact .tail _ (.tail _ (.head _)) | exact .tail _ (.tail _ (.tail _ (.head _))) | simp)) (by kernel_rfl) (Deaf.body RetM.not_panicked) (fun w_ T_ => (q_load (off := 0) rfl (by kernel_rfl) (by kernel_rfl) T_ (by kernel_rfl))) ((G3.drew).imm _ _ ((PH.le_refl _) _ _ hb3)) ?_
  refine DW.take (T := fun _ => True) 2 (.pointer (some ⟨t, 0, none⟩)) rfl (by kernel_rfl) rfl (by kernel_rfl) (.inl fun _ => trivial) (by kernel_rfl) (Deaf.body RetM.not_panicked) (fun w_ _ => (by kernel_rfl)) trivial ?_
  refine DW.take (T := fun _ => True) 3 (.pointer (some ⟨t, 1, none⟩)) rfl (by kernel_rfl) rfl (by kernel_rfl) (.inl fun _ => trivial) (by kernel_rfl) (Deaf.body RetM.not_panicked) (fun w_ _ => (by kernel_rfl)) trivial ?_
  refine DW.take (T := fun w_ => PH.all w_ t = some (.cells #[.map (some bm), (.slice ca came.length cc)] 53 (0, 0))) 4 (.slice ca came.length cc) rfl (by kernel_rfl) rfl (by kernel_rfl) (.inr (by first | exact .head _ | exact .tail _ (.head _) | exact .tail _ (.tail _ (.head _)) | exact .tail _ (.tail _ (.tail _ (.head _))) | simp)) (by kernel_rfl) (Deaf.body RetM.not_panicked) (fun w_ T_ => (q_load (off := 1) rfl (by kernel_rfl) (by kernel_rfl) T_ (by kernel_rfl))) ((G3.drew).own _ _ (((Bm.le.trans (Ly.le (Ly.starL Ly.rowA rs) Rs)).trans Oc.le) _ _ Bt.at)) ?_
  refine DW.take (T := fun _ => True) 5 (.func (.func 36) #[] #[(.pointer (some ⟨b3, 0, none⟩))]) rfl (by kernel_rfl) rfl (by kernel_rfl) (.inl fun _ => trivial) (by kernel_rfl) (Deaf.body RetM.not_panicked) (fun w_ _ => (by kernel_rfl)) trivial ?_
  refine DW.only 6 (by kernel_rfl) ?_
  obtain ⟨N4, s5, s6⟩ : ∃ N_, Blk bm (.map es clk) M0 N_ ∧ Blk t (.cells #[.map (some bm), (.slice ca came.length cc)] 53 (0, 0)) N_ Mb := Ly.swap (Ly.blk t (.cells #[.map (some bm), (.slice ca came.length cc)] 53 (0, 0))) (Ly.blk bm (.map es clk)) Bt Bm
  obtain ⟨N7, s8, s9⟩ : ∃ N_, StarL rowA rs N4 N_ ∧ Blk t (.cells #[.map (some bm), (.slice ca came.length cc)] 53 (0, 0)) N_ Mr := Ly.swap (Ly.blk t (.cells #[.map (some bm), (.slice ca came.length cc)] 53 (0, 0))) (Ly.starL Ly.rowA rs) s6 Rs
  obtain ⟨N10, s11, s12⟩ : ∃ N_, Own 28 whyE N7 N_ ca cc came ∧ Blk t (.cells #[.map (some bm), (.slice ca came.length cc)] 53 (0, 0)) N_ M := Ly.swap (Ly.blk t (.cells #[.map (some bm), (.slice ca came.length cc)] 53 (0, 0))) (Ly.own (E := whyE) 28 ca cc came) s9 Oc
  obtain ⟨N13, s14, s15⟩ : ∃ N_, StarL rowA rs M0 N_ ∧ Blk bm (.map es clk) N_ N7 := Ly.swap (Ly.blk bm (.map es clk)) (Ly.starL Ly.rowA rs) s5 s8
  obtain ⟨N16, s17, s18⟩ : ∃ N_, Own 28 whyE N13 N_ ca cc came ∧ Blk bm (.map es clk) N_ N10 := Ly.swap (Ly.blk bm (.map es clk)) (Ly.own (E := whyE) 28 ca cc came) s15 s11
  obtain ⟨N19, s20, s21⟩ : ∃ N_, Blk t (.cells #[.map (some bm), (.slice ca came.length cc)] 53 (0, 0)) N16 N_ ∧ Blk bm (.map es clk) N_ M := Ly.swap (Ly.blk bm (.map es clk)) (Ly.blk t (.cells #[.map (some bm), (.slice ca came.length cc)] 53 (0, 0))) s18 s12
  obtain ⟨N22, s23, s24⟩ : ∃ N_, Own 28 whyE M0 N_ ca cc came ∧ StarL rowA rs N_ N16 := Ly.swap (Ly.starL Ly.rowA rs) (Ly.own (E := whyE) 28 ca cc came) s14 s17
  obtain ⟨N25, s26, s27⟩ : ∃ N_, Blk t (.cells #[.map (some bm), (.slice ca came.length cc)] 53 (0, 0)) N22 N_ ∧ StarL rowA rs N_ N19 := Ly.swap (Ly.starL Ly.rowA rs) (Ly.blk t (.cells #[.map (some bm), (.slice ca came.length cc)] 53 (0, 0))) s24 s20
  obtain ⟨N28, s29, s30⟩ : ∃ N_, Blk bm (.map es clk) N25 N_ ∧ StarL rowA rs N_ M := Ly.swap (Ly.starL Ly.rowA rs) (Ly.blk bm (.map es clk)) s27 s21
  obtain ⟨N31, s32, s33⟩ : ∃ N_, Blk t (.cells #[.map (some bm), (.slice ca came.length cc)] 53 (0, 0)) M0 N_ ∧ Own 28 whyE N_ N25 ca cc came := Ly.swap (Ly.own (E := whyE) 28 ca cc came) (Ly.blk t (.cells #[.map (some bm), (.slice ca came.length cc)] 53 (0, 0))) s23 s26
  obtain ⟨N34, s35, s36⟩ : ∃ N_, Blk bm (.map es clk) N31 N_ ∧ Own 28 whyE N_ N28 ca cc came := Ly.swap (Ly.own (E := whyE) 28 ca cc came) (Ly.blk bm (.map es clk)) s33 s29
  obtain ⟨N37, s38, s39⟩ : ∃ N_, StarL rowA rs N34 N_ ∧ Own 28 whyE N_ M ca cc came := Ly.swap (Ly.own (E := whyE) 28 ca cc came) (Ly.starL Ly.rowA rs) s36 s30
  refine DOp.call rfl (by kernel_rfl) rfl (by kernel_rfl) (by kernel_rfl) (sw_del (G3.drew) s39 (Nat.le_trans ok.lenc (Nat.le_trans hb (by decide))) 36 #[.pointer (some ⟨b3, 0, none⟩)] (fun y => !usedR rs y) ent36 (fun y hy w' h' M' hl hm g' => sweepC_spec g' ⟨bm, es, clk, _, _, s32, s35, s38, mi⟩ hm (fun r hr w hw => whyG.mono (l3.trans hl) _ (ok.rows r hr w hw)) (fun r hr => Nat.le_trans (ok.lens r hr) hb) (whyG.mono (l3.trans hl) _ (ok.all y hy)) (hl _ _ ((PH.le_refl _) _ _ hb3))) rfl) (RetM.elimD (fun w40 h40 M40 v_ l40 G40 p_ => by obtain ⟨rfl, o40⟩ := p_; exact ⟨.inr (fun _ => (G40.imm _ _ (l40 _ _ hb3))), .inr (fun _ => (G40.imm _ _ (l40 _ _ hb3))), .inl (by kernel_rfl), trivial⟩) ?_)
  rintro w40 h40 M40 _ l40 G40 ⟨rfl, o40⟩
  refine DW.take (T := fun _ => True) 7 (.pointer (some ⟨t, 0, none⟩)) rfl (by kernel_rfl) rfl (by kernel_rfl) (.inl fun _ => trivial) (by kernel_rfl) (Deaf.body RetM.not_panicked) (fun w_ _ => (by kernel_rfl)) trivial ?_
  refine DW.take (T := fun _ => True) 8 (.pointer (some ⟨t, 1, none⟩)) rfl (by kernel_rfl) rfl (by kernel_rfl) (.inl fun _ => trivial) (by kernel_rfl) (Deaf.body RetM.not_panicked) (fun w_ _ => (by kernel_rfl)) trivial ?_
  refine DW.only 9 (by kernel_rfl) ?_
  obtain ⟨N41, s42, s43⟩ : ∃ N_, Blk bm (.map es clk) M0 N_ ∧ Blk t (.cells #[.map (some bm), (.slice ca came.length cc)] 53 (0, 0)) N_ N34 := Ly.swap (Ly.blk t (.cells #[.map (some bm), (.slice ca came.length cc)] 53 (0, 0))) (Ly.blk bm (.map es clk)) s32 s35
  obtain ⟨N44, s45, s46⟩ : ∃ N_, StarL rowA rs N41 N_ ∧ Blk t (.cells #[.map (some bm), (.slice ca came.length cc)] 53 (0, 0)) N_ N37 := Ly.swap (Ly.blk t (.cells #[.map (some bm), (.slice ca came.length cc)] 53 (0, 0))) (Ly.starL Ly.rowA rs) s43 s38
  obtain ⟨N47, s48, s49⟩ : ∃ N_, Own 28 whyE N44 N_ ca cc (sweepC rs came) ∧ Blk t (.cells #[.map (some bm), (.slice ca came.length cc)] 53 (0, 0)) N_ M40 := Ly.swap (Ly.blk t (.cells #[.map (some bm), (.slice ca came.length cc)] 53 (0, 0))) (Ly.own (E := whyE) 28 ca cc (sweepC rs came)) s46 o40
  refine DOp.exu rfl (by kernel_rfl) rfl (by kernel_rfl) (q_storeB (off := 1) (et := 53) (v := (.slice ca ((sweepC rs came).length) cc)) (vs := [(.slice ca ((sweepC rs came).length) cc)]) #[(.map (some bm)), (.slice ca ((sweepC rs came).length) cc)] G40 s49 rfl (by kernel_rfl) (by kernel_rfl) (by kernel_rfl) (by kernel_rfl) (by simp [Value.oneCell']) (by simp) (by kernel_rfl)) (fun w50 p_ => by obtain ⟨M50, G50, B50⟩ := p_; exact ⟨.inl (by kernel_rfl), .inl (by kernel_rfl), .inl (by kernel_rfl), trivial⟩) ?_
  rintro w50 ⟨M50, G50, B50⟩
  refine DW.done (by kernel_rfl) ?_
  refine EX.end0 rfl ?_
  obtain ⟨N51, s52, s53⟩ : ∃ N_, StarL rowA rs M0 N_ ∧ Blk bm (.map es clk) N_ N44 := Ly.swap (Ly.blk bm (.map es clk)) (Ly.starL Ly.rowA rs) s42 s45
  obtain ⟨N54, s55, s56⟩ : ∃ N_, Own 28 whyE N51 N_ ca cc (sweepC rs came) ∧ Blk bm (.map es clk) N_ N47 := Ly.swap (Ly.blk bm (.map es clk)) (Ly.own (E := whyE) 28 ca cc (sweepC rs came)) s53 s48
  obtain ⟨N57, s58, s59⟩ : ∃ N_, Blk t (.cells #[(.map (some bm)), (.slice ca ((sweepC rs came).length) cc)] 53 (0, 0)) N54 N_ ∧ Blk bm (.map es clk) N_ M50 := Ly.swap (Ly.blk bm (.map es clk)) (Ly.blk t (.cells #[(.map (some bm)), (.slice ca ((sweepC rs came).length) cc)] 53 (0, 0))) s56 B50
  obtain ⟨N60, s61, s62⟩ : ∃ N_, Own 28 whyE M0 N_ ca cc (sweepC rs came) ∧ StarL rowA rs N_ N54 := Ly.swap (Ly.starL Ly.rowA rs) (Ly.own (E := whyE) 28 ca cc (sweepC rs came)) s52 s55
  obtain ⟨N63, s64, s65⟩ : ∃ N_, Blk t (.cells #[(.map (some bm)), (.slice ca ((sweepC rs came).length) cc)] 53 (0, 0)) N60 N_ ∧ StarL rowA rs N_ N57 := Ly.swap (Ly.starL Ly.rowA rs) (Ly.blk t (.cells #[(.map (some bm)), (.slice ca ((sweepC rs came).length) cc)] 53 (0, 0))) s62 s58
  obtain ⟨N66, s67, s68⟩ : ∃ N_, Blk bm (.map es clk) N63 N_ ∧ StarL rowA rs N_ M50 := Ly.swap (Ly.starL Ly.rowA rs) (Ly.blk bm (.map es clk)) s65 s59
  obtain ⟨N69, s70, s71⟩ : ∃ N_, Blk t (.cells #[(.map (some bm)), (.slice ca ((sweepC rs came).length) cc)] 53 (0, 0)) M0 N_ ∧ Own 28 whyE N_ N63 ca cc (sweepC rs came) := Ly.swap (Ly.own (E := whyE) 28 ca cc (sweepC rs came)) (Ly.blk t (.cells #[(.map (some bm)), (.slice ca ((sweepC rs came).length) cc)] 53 (0, 0))) s61 s64
  obtain ⟨N72, s73, s74⟩ : ∃ N_, Blk bm (.map es clk) N69 N_ ∧ Own 28 whyE N_ N66 ca cc (sweepC rs came) := Ly.swap (Ly.own (E := whyE) 28 ca cc (sweepC rs came)) (Ly.blk bm (.map es clk)) s71 s67
  obtain ⟨N75, s76, s77⟩ : ∃ N_, StarL rowA rs N72 N_ ∧ Own 28 whyE N_ M50 ca cc (sweepC rs came) := Ly.swap (Ly.own (E := whyE) 28 ca cc (sweepC rs came)) (Ly.starL Ly.rowA rs) s74 s68
  exact RetM.mk (l3.trans l40) G50 ⟨rfl, ca, cc, _, ⟨_, _, _, _, _, s70, s73, s76, mi⟩, s77, { ok.mono (l3.trans l40) with all := (all_filter (all_up @whyG.mono (l3.trans l40) ok.all)), lenc := Nat.le_trans (List.length_filter_le _ _) ok.lenc }⟩
end Go.Proofs
