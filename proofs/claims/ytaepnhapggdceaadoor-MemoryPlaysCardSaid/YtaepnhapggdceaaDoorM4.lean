import Derived.Test.YtaepnhapggdceaaDoorM3
import Derived.Test.YtaepnhapggdceaaDoorKy
namespace Go.Proofs
open Go Go.Wk
theorem itoa_spec {K : Key} {w : World} {h M : PH} (G : Wld K w h M) (T : Tab Tryd.prog h) (n : Int) (h0 : -9223372036854775808 ≤ n) (h1 : n ≤ 9223372036854775807) :
    Calls Tryd.prog 39 #[.int .i64 n] w (Ret K h M fun _ v => v = .string (itoaB n)) := by
  refine (Tryd.strconv_Itoa n h0 h1 w (T w G.imm)).mono ?_
  rintro e w' ⟨rfl, k, os, rfl⟩
  exact Ret.mk (PH.le_refl _) (G.grown k os) rfl

theorem fmt10_spec {K : Key} {w : World} {h M : PH} (G : Wld K w h M) (T : Tab Tryd.prog h) (n : Int) (h0 : -9223372036854775808 ≤ n) (h1 : n ≤ 9223372036854775807) :
    Calls Tryd.prog 45 #[.int .i64 n, .int .i64 10] w (Ret K h M fun _ v => v = .string (itoaB n)) := by
  refine (Tryd.strconv_FormatInt_10 n h0 h1 w (T w G.imm)).mono ?_
  rintro e w' ⟨rfl, k, os, rfl⟩
  exact Ret.mk (PH.le_refl _) (G.grown k os) rfl

theorem text_spec {K : Key} {w : World} {h M : PH} (G : Wld K w h M) (T : Tab Tryd.prog h) (n : Int) (h0 : -9223372036854775808 ≤ n) (h1 : n ≤ 9223372036854775807) :
    Calls Tryd.prog 40 #[.int .i64 n] w (Ret K h M fun _ v => v = .string (itoaB n)) := by
  refine enter (l := [(.int .i64 n)]) Tryd.func40 rfl Tryd.ntmps40 (Nat.le_of_ble_eq_true rfl) ?_
  simp only [params]
  refine CW.seq ?_
  refine CW.region ?_
  refine WL.q (.string (ByteArray.mk #[])) (by kernel_rfl) rfl (by kernel_rfl) (by kernel_rfl) ?_
  refine WL.nil ?_
  refine EX.then_code ?_
  refine CW.seq ?_
  refine CW.region ?_
  refine WL.q (.int .i64 n) (by kernel_rfl) rfl (by kernel_rfl) (by kernel_rfl) ?_
  refine WL.call (by kernel_rfl) rfl (by kernel_rfl) (by kernel_rfl) (fmt10_spec G (T.mono (PH.le_refl _)) n (by omega) (by omega)) (Ret.elim ?_)
  rintro w1 h1 _ l1 G1 rfl
  refine WL.q (.string (itoaB n)) (by kernel_rfl) rfl (by kernel_rfl) (by kernel_rfl) ?_
  refine WL.nil ?_
  refine EX.then_code ?_
  refine CW.ret ?_
  refine EX.ret1 (v := (.string (itoaB n))) rfl (by kernel_rfl) ?_
  exact Ret.mk l1 G1 rfl

theorem copy_nil {K : Key} {w : World} {h M : PH} (G : Wld K w h M) {M0 : PH} {b : Nat} {v : Value} (B : Blk b (.cells #[(.pointer none), v] 77 (0, 0)) M0 M) :
    Calls Tryd.prog 43 #[.pointer (some ⟨b, 0, none⟩)] w (RetM K h fun _ M' r => r = .tuple #[] ∧ Blk b (.cells #[(.pointer (some ⟨b, 0, none⟩)), v] 77 (0, 0)) M0 M') := by
  refine enter (l := [(.pointer (some ⟨b, 0, none⟩))]) Tryd.func43 rfl Tryd.ntmps43 (Nat.le_of_ble_eq_true rfl) ?_
  simp only [params]
  refine CW.seq ?_
  refine CW.region ?_
  refine WL.q (.pointer (some ⟨b, 0, none⟩)) (by kernel_rfl) rfl (by kernel_rfl) (by kernel_rfl) ?_
  refine WL.q (.pointer (some ⟨b, 0, none⟩)) (by kernel_rfl) rfl (by kernel_rfl) (by kernel_rfl) ?_
  refine WL.q (.pointer (some ⟨b, 0, none⟩)) (by kernel_rfl) rfl (by kernel_rfl) (by kernel_rfl) ?_
  refine WL.q (.pointer none) (by kernel_rfl) rfl (by kernel_rfl) (q_load (off := 0) rfl (by kernel_rfl) (by kernel_rfl) (G.own _ _ B.at) (by kernel_rfl)) ?_
  refine WL.q (.bool true) (by kernel_rfl) rfl (by kernel_rfl) (by kernel_rfl) ?_
  refine WL.nil ?_
  refine EX.then_code ?_
  refine CW.cond_t (by kernel_rfl) (by kernel_rfl) ?_
  refine CW.region ?_
  refine WL.q (.pointer (some ⟨b, 0, none⟩)) (by kernel_rfl) rfl (by kernel_rfl) (by kernel_rfl) ?_
  refine WL.q (.pointer (some ⟨b, 0, none⟩)) (by kernel_rfl) rfl (by kernel_rfl) (by kernel_rfl) ?_
  refine WL.q (.pointer (some ⟨b, 0, none⟩)) (by kernel_rfl) rfl (by kernel_rfl) (q_toUnsafe (t := 77) (cs := #[(.pointer none), v]) rfl (by kernel_rfl) (by kernel_rfl) (by kernel_rfl) (by kernel_rfl) (G.own _ _ B.at) (by simp)) ?_
  refine WL.q (.pointer (some ⟨b, 0, none⟩)) (by kernel_rfl) rfl (by kernel_rfl) (q_extern (f := 46) Tryd.func46 (by kernel_rfl) (by kernel_rfl) (by kernel_rfl) (e := Extern.AbiNoEscape.same) (by kernel_rfl) rfl (by kernel_rfl) (Lib.run_noEscape _ _)) ?_
  refine WL.q (.pointer (some ⟨b, 0, none⟩)) (by kernel_rfl) rfl (by kernel_rfl) (q_fromUnsafe (u := 77) (cs := #[(.pointer none), v]) rfl (by kernel_rfl) (by kernel_rfl) (by kernel_rfl) (by kernel_rfl) (G.own _ _ B.at) (by kernel_rfl)) ?_
  refine WL.q (.pointer (some ⟨b, 0, none⟩)) (by kernel_rfl) rfl (by kernel_rfl) (by kernel_rfl) ?_
  refine WL.q (.pointer (some ⟨b, 0, none⟩)) (by kernel_rfl) rfl (by kernel_rfl) (by kernel_rfl) ?_
  refine WL.exu (by kernel_rfl) rfl (by kernel_rfl) (q_storeB (off := 0) (et := 77) (v := (.pointer (some ⟨b, 0, none⟩))) (vs := [(.pointer (some ⟨b, 0, none⟩))]) #[(.pointer (some ⟨b, 0, none⟩)), v] G B rfl (by kernel_rfl) (by kernel_rfl) (by kernel_rfl) (by kernel_rfl) (by simp [Value.oneCell']) (by simp) (by kernel_rfl)) ?_
  rintro w2 ⟨M2, G2, B2⟩
  refine WL.nil ?_
  refine EX.end0 rfl ?_
  exact RetM.mk (PH.le_refl _) G2 (⟨rfl, B2⟩)

theorem copy_self {K : Key} {w : World} {h M : PH} (G : Wld K w h M) {M0 : PH} {b : Nat} {v : Value} (B : Blk b (.cells #[(.pointer (some ⟨b, 0, none⟩)), v] 77 (0, 0)) M0 M) :
    Calls Tryd.prog 43 #[.pointer (some ⟨b, 0, none⟩)] w (RetM K h fun _ M' r => r = .tuple #[] ∧ Blk b (.cells #[(.pointer (some ⟨b, 0, none⟩)), v] 77 (0, 0)) M0 M') := by
  refine enter (l := [(.pointer (some ⟨b, 0, none⟩))]) Tryd.func43 rfl Tryd.ntmps43 (Nat.le_of_ble_eq_true rfl) ?_
  simp only [params]
  refine CW.seq ?_
  refine CW.region ?_
  refine WL.q (.pointer (some ⟨b, 0, none⟩)) (by kernel_rfl) rfl (by kernel_rfl) (by kernel_rfl) ?_
  refine WL.q (.pointer (some ⟨b, 0, none⟩)) (by kernel_rfl) rfl (by kernel_rfl) (by kernel_rfl) ?_
  refine WL.q (.pointer (some ⟨b, 0, none⟩)) (by kernel_rfl) rfl (by kernel_rfl) (by kernel_rfl) ?_
  refine WL.q (.pointer (some ⟨b, 0, none⟩)) (by kernel_rfl) rfl (by kernel_rfl) (q_load (off := 0) rfl (by kernel_rfl) (by kernel_rfl) (G.own _ _ B.at) (by kernel_rfl)) ?_
  refine WL.q (.bool false) (by kernel_rfl) rfl (by kernel_rfl) (by kernel_rfl) ?_
  refine WL.nil ?_
  refine EX.then_code ?_
  refine CW.cond_f (by kernel_rfl) (by kernel_rfl) ?_
  refine CW.seq ?_
  refine CW.region ?_
  refine WL.q (.pointer (some ⟨b, 0, none⟩)) (by kernel_rfl) rfl (by kernel_rfl) (by kernel_rfl) ?_
  refine WL.q (.pointer (some ⟨b, 0, none⟩)) (by kernel_rfl) rfl (by kernel_rfl) (by kernel_rfl) ?_
  refine WL.q (.pointer (some ⟨b, 0, none⟩)) (by kernel_rfl) rfl (by kernel_rfl) (by kernel_rfl) ?_
  refine WL.q (.pointer (some ⟨b, 0, none⟩)) (by kernel_rfl) rfl (by kernel_rfl) (q_load (off := 0) rfl (by kernel_rfl) (by kernel_rfl) (G.own _ _ B.at) (by kernel_rfl)) ?_
  refine WL.q (.pointer (some ⟨b, 0, none⟩)) (by kernel_rfl) rfl (by kernel_rfl) (by kernel_rfl) ?_
  refine WL.q (.bool false) (by kernel_rfl) rfl (by kernel_rfl) (q_neqSame (te := 77) (a := ⟨b, 0, none⟩) rfl (by kernel_rfl) (by kernel_rfl) (by kernel_rfl)) ?_
  refine WL.nil ?_
  refine EX.then_code ?_
  refine CW.cond_f (by kernel_rfl) (by kernel_rfl) ?_
  refine CW.skip ?_
  refine EX.end0 rfl ?_
  exact RetM.mk (PH.le_refl _) G (⟨rfl, B⟩)

theorem ws_nil {K : Key} {w : World} {h M : PH} (G : Wld K w h M) {M0 M1 : PH} {b : Nat} {a : Option Addr} {c : Nat} {s : List UInt8} (B : Blk b (.cells #[(.pointer none), .slice a s.length c] 77 (0, 0)) M0 M1) (O : OwnB 5 M1 M a c s) (str : ByteArray) (hlen : s.length + str.size ≤ 140737488351232) :
    Calls Tryd.prog 38 #[.pointer (some ⟨b, 0, none⟩), .string str] w (RetM K h fun _ M' r => r = .tuple #[.int .i64 (str.size : Int), .nilIface] ∧ BldL 77 5 b (s ++ str.data.toList) M0 M') := by
  refine enter (l := [(.pointer (some ⟨b, 0, none⟩)), (.string str)]) Tryd.func38 rfl Tryd.ntmps38 (Nat.le_of_ble_eq_true rfl) ?_
  simp only [params]
  refine CW.seq ?_
  refine CW.region ?_
  refine WL.q (.int .i64 0) (by kernel_rfl) rfl (by kernel_rfl) (by kernel_rfl) ?_
  refine WL.q .nilIface (by kernel_rfl) rfl (by kernel_rfl) (by kernel_rfl) ?_
  refine WL.nil ?_
  refine EX.then_code ?_
  refine CW.seq ?_
  refine CW.region ?_
  refine WL.q (.pointer (some ⟨b, 0, none⟩)) (by kernel_rfl) rfl (by kernel_rfl) (by kernel_rfl) ?_
  obtain ⟨N3, s4, s5⟩ : ∃ N_, OwnB 5 M0 N_ a c s ∧ Blk b (.cells #[(.pointer none), (.slice a s.length c)] 77 (0, 0)) N_ M := Ly.swap (Ly.blk b (.cells #[(.pointer none), (.slice a s.length c)] 77 (0, 0))) (Ly.ownB 5 a c s) B O
  refine WL.call (by kernel_rfl) rfl (by kernel_rfl) (by kernel_rfl) (copy_nil (v := (.slice a s.length c)) G s5) (RetM.elim ?_)
  rintro w6 h6 M6 _ l6 G6 ⟨rfl, B6⟩
  refine WL.nil ?_
  refine EX.then_code ?_
  refine CW.seq ?_
  refine CW.region ?_
  refine WL.q (.pointer (some ⟨b, 0, none⟩)) (by kernel_rfl) rfl (by kernel_rfl) (by kernel_rfl) ?_
  refine WL.q (.pointer (some ⟨b, 0, none⟩)) (by kernel_rfl) rfl (by kernel_rfl) (by kernel_rfl) ?_
  refine WL.q (.pointer (some ⟨b, 0, none⟩)) (by kernel_rfl) rfl (by kernel_rfl) (by kernel_rfl) ?_
  refine WL.q (.pointer (some ⟨b, 1, none⟩)) (by kernel_rfl) rfl (by kernel_rfl) (by kernel_rfl) ?_
  refine WL.q (.slice a s.length c) (by kernel_rfl) rfl (by kernel_rfl) (q_load (off := 1) rfl (by kernel_rfl) (by kernel_rfl) (G6.own _ _ B6.at) (by kernel_rfl)) ?_
  refine WL.q (.string str) (by kernel_rfl) rfl (by kernel_rfl) (by kernel_rfl) ?_
  obtain ⟨N7, s8, s9⟩ : ∃ N_, Blk b (.cells #[(.pointer (some ⟨b, 0, none⟩)), (.slice a s.length c)] 77 (0, 0)) M0 N_ ∧ OwnB 5 N_ M6 a c s := Ly.swap (Ly.ownB 5 a c s) (Ly.blk b (.cells #[(.pointer (some ⟨b, 0, none⟩)), (.slice a s.length c)] 77 (0, 0))) s4 B6
  refine WL.ex (by kernel_rfl) rfl (by kernel_rfl) (q_appStr (e := 5) (xs := s) (str := str) G6 s9 rfl (by kernel_rfl) (by kernel_rfl) (by kernel_rfl) (by kernel_rfl) (by omega)) ?_
  rintro _ w10 ⟨a10, k10, M10, rfl, G10, o10⟩
  refine WL.q (.pointer (some ⟨b, 0, none⟩)) (by kernel_rfl) rfl (by kernel_rfl) (by kernel_rfl) ?_
  refine WL.q (.pointer (some ⟨b, 1, none⟩)) (by kernel_rfl) rfl (by kernel_rfl) (by kernel_rfl) ?_
  obtain ⟨N11, s12, s13⟩ : ∃ N_, OwnB 5 M0 N_ a10 k10 (s ++ str.data.toList) ∧ Blk b (.cells #[(.pointer (some ⟨b, 0, none⟩)), (.slice a s.length c)] 77 (0, 0)) N_ M10 := Ly.swap (Ly.blk b (.cells #[(.pointer (some ⟨b, 0, none⟩)), (.slice a s.length c)] 77 (0, 0))) (Ly.ownB 5 a10 k10 (s ++ str.data.toList)) s8 o10
  refine WL.exu (by kernel_rfl) rfl (by kernel_rfl) (q_storeB (off := 1) (et := 77) (v := (.slice a10 ((s ++ str.data.toList).length) k10)) (vs := [(.slice a10 ((s ++ str.data.toList).length) k10)]) #[(.pointer (some ⟨b, 0, none⟩)), (.slice a10 ((s ++ str.data.toList).length) k10)] G10 s13 rfl (by kernel_rfl) (by kernel_rfl) (by kernel_rfl) (by kernel_rfl) (by simp [Value.oneCell']) (by simp) (by kernel_rfl)) ?_
  rintro w14 ⟨M14, G14, B14⟩
  refine WL.nil ?_
  refine EX.then_code ?_
  refine CW.seq ?_
  refine CW.region ?_
  refine WL.q (.string str) (by kernel_rfl) rfl (by kernel_rfl) (by kernel_rfl) ?_
  refine WL.q (.int .i64 (str.size : Int)) (by kernel_rfl) rfl (by kernel_rfl) (by kernel_rfl) ?_
  refine WL.q (.int .i64 (str.size : Int)) (by kernel_rfl) rfl (by kernel_rfl) (by kernel_rfl) ?_
  refine WL.q .nilIface (by kernel_rfl) rfl (by kernel_rfl) (by kernel_rfl) ?_
  refine WL.nil ?_
  refine EX.then_code ?_
  refine CW.ret ?_
  refine EX.ret2 (v := (.int .i64 (str.size : Int))) (x := .nilIface) rfl (by kernel_rfl) (by kernel_rfl) ?_
  obtain ⟨N15, s16, s17⟩ : ∃ N_, Blk b (.cells #[(.pointer (some ⟨b, 0, none⟩)), (.slice a10 ((s ++ str.data.toList).length) k10)] 77 (0, 0)) M0 N_ ∧ OwnB 5 N_ M14 a10 k10 (s ++ str.data.toList) := Ly.swap (Ly.ownB 5 a10 k10 (s ++ str.data.toList)) (Ly.blk b (.cells #[(.pointer (some ⟨b, 0, none⟩)), (.slice a10 ((s ++ str.data.toList).length) k10)] 77 (0, 0))) s12 B14
  exact RetM.mk l6 G14 ⟨rfl, _, _, _, _, s16, .inr rfl, s17⟩

theorem ws_self {K : Key} {w : World} {h M : PH} (G : Wld K w h M) {M0 M1 : PH} {b : Nat} {a : Option Addr} {c : Nat} {s : List UInt8} (B : Blk b (.cells #[(.pointer (some ⟨b, 0, none⟩)), .slice a s.length c] 77 (0, 0)) M0 M1) (O : OwnB 5 M1 M a c s) (str : ByteArray) (hlen : s.length + str.size ≤ 140737488351232) :
    Calls Tryd.prog 38 #[.pointer (some ⟨b, 0, none⟩), .string str] w (RetM K h fun _ M' r => r = .tuple #[.int .i64 (str.size : Int), .nilIface] ∧ BldL 77 5 b (s ++ str.data.toList) M0 M') := by
  refine enter (l := [(.pointer (some ⟨b, 0, none⟩)), (.string str)]) Tryd.func38 rfl Tryd.ntmps38 (Nat.le_of_ble_eq_true rfl) ?_
  simp only [params]
  refine CW.seq ?_
  refine CW.region ?_
  refine WL.q (.int .i64 0) (by kernel_rfl) rfl (by kernel_rfl) (by kernel_rfl) ?_
  refine WL.q .nilIface (by kernel_rfl) rfl (by kernel_rfl) (by kernel_rfl) ?_
  refine WL.nil ?_
  refine EX.then_code ?_
  refine CW.seq ?_
  refine CW.region ?_
  refine WL.q (.pointer (some ⟨b, 0, none⟩)) (by kernel_rfl) rfl (by kernel_rfl) (by kernel_rfl) ?_
  obtain ⟨N18, s19, s20⟩ : ∃ N_, OwnB 5 M0 N_ a c s ∧ Blk b (.cells #[(.pointer (some ⟨b, 0, none⟩)), (.slice a s.length c)] 77 (0, 0)) N_ M := Ly.swap (Ly.blk b (.cells #[(.pointer (some ⟨b, 0, none⟩)), (.slice a s.length c)] 77 (0, 0))) (Ly.ownB 5 a c s) B O
  refine WL.call (by kernel_rfl) rfl (by kernel_rfl) (by kernel_rfl) (copy_self (v := (.slice a s.length c)) G s20) (RetM.elim ?_)
  rintro w21 h21 M21 _ l21 G21 ⟨rfl, B21⟩
  refine WL.nil ?_
  refine EX.then_code ?_
  refine CW.seq ?_
  refine CW.region ?_
  refine WL.q (.pointer (some ⟨b, 0, none⟩)) (by kernel_rfl) rfl (by kernel_rfl) (by kernel_rfl) ?_
  refine WL.q (.pointer (some ⟨b, 0, none⟩)) (by kernel_rfl) rfl (by kernel_rfl) (by kernel_rfl) ?_
  refine WL.q (.pointer (some ⟨b, 0, none⟩)) (by kernel_rfl) rfl (by kernel_rfl) (by kernel_rfl) ?_
  refine WL.q (.pointer (some ⟨b, 1, none⟩)) (by kernel_rfl) rfl (by kernel_rfl) (by kernel_rfl) ?_
  refine WL.q (.slice a s.length c) (by kernel_rfl) rfl (by kernel_rfl) (q_load (off := 1) rfl (by kernel_rfl) (by kernel_rfl) (G21.own _ _ B21.at) (by kernel_rfl)) ?_
  refine WL.q (.string str) (by kernel_rfl) rfl (by kernel_rfl) (by kernel_rfl) ?_
  obtain ⟨N22, s23, s24⟩ : ∃ N_, Blk b (.cells #[(.pointer (some ⟨b, 0, none⟩)), (.slice a s.length c)] 77 (0, 0)) M0 N_ ∧ OwnB 5 N_ M21 a c s := Ly.swap (Ly.ownB 5 a c s) (Ly.blk b (.cells #[(.pointer (some ⟨b, 0, none⟩)), (.slice a s.length c)] 77 (0, 0))) s19 B21
  refine WL.ex (by kernel_rfl) rfl (by kernel_rfl) (q_appStr (e := 5) (xs := s) (str := str) G21 s24 rfl (by kernel_rfl) (by kernel_rfl) (by kernel_rfl) (by kernel_rfl) (by omega)) ?_
  rintro _ w25 ⟨a25, k25, M25, rfl, G25, o25⟩
  refine WL.q (.pointer (some ⟨b, 0, none⟩)) (by kernel_rfl) rfl (by kernel_rfl) (by kernel_rfl) ?_
  refine WL.q (.pointer (some ⟨b, 1, none⟩)) (by kernel_rfl) rfl (by kernel_rfl) (by kernel_rfl) ?_
  obtain ⟨N26, s27, s28⟩ : ∃ N_, OwnB 5 M0 N_ a25 k25 (s ++ str.data.toList) ∧ Blk b (.cells #[(.pointer (some ⟨b, 0, none⟩)), (.slice a s.length c)] 77 (0, 0)) N_ M25 := Ly.swap (Ly.blk b (.cells #[(.pointer (some ⟨b, 0, none⟩)), (.slice a s.length c)] 77 (0, 0))) (Ly.ownB 5 a25 k25 (s ++ str.data.toList)) s23 o25
  refine WL.exu (by kernel_rfl) rfl (by kernel_rfl) (q_storeB (off := 1) (et := 77) (v := (.slice a25 ((s ++ str.data.toList).length) k25)) (vs := [(.slice a25 ((s ++ str.data.toList).length) k25)]) #[(.pointer (some ⟨b, 0, none⟩)), (.slice a25 ((s ++ str.data.toList).length) k25)] G25 s28 rfl (by kernel_rfl) (by kernel_rfl) (by kernel_rfl) (by kernel_rfl) (by simp [Value.oneCell']) (by simp) (by kernel_rfl)) ?_
  rintro w29 ⟨M29, G29, B29⟩
  refine WL.nil ?_
  refine EX.then_code ?_
  refine CW.seq ?_
  refine CW.region ?_
  refine WL.q (.string str) (by kernel_rfl) rfl (by kernel_rfl) (by kernel_rfl) ?_
  refine WL.q (.int .i64 (str.size : Int)) (by kernel_rfl) rfl (by kernel_rfl) (by kernel_rfl) ?_
  refine WL.q (.int .i64 (str.size : Int)) (by kernel_rfl) rfl (by kernel_rfl) (by kernel_rfl) ?_
  refine WL.q .nilIface (by kernel_rfl) rfl (by kernel_rfl) (by kernel_rfl) ?_
  refine WL.nil ?_
  refine EX.then_code ?_
  refine CW.ret ?_
  refine EX.ret2 (v := (.int .i64 (str.size : Int))) (x := .nilIface) rfl (by kernel_rfl) (by kernel_rfl) ?_
  obtain ⟨N30, s31, s32⟩ : ∃ N_, Blk b (.cells #[(.pointer (some ⟨b, 0, none⟩)), (.slice a25 ((s ++ str.data.toList).length) k25)] 77 (0, 0)) M0 N_ ∧ OwnB 5 N_ M29 a25 k25 (s ++ str.data.toList) := Ly.swap (Ly.ownB 5 a25 k25 (s ++ str.data.toList)) (Ly.blk b (.cells #[(.pointer (some ⟨b, 0, none⟩)), (.slice a25 ((s ++ str.data.toList).length) k25)] 77 (0, 0))) s27 B29
  exact RetM.mk l21 G29 ⟨rfl, _, _, _, _, s31, .inr rfl, s32⟩

theorem ws_spec {K : Key} {w : World} {h M : PH} (G : Wld K w h M) {M0 : PH} {b : Nat} {s : List UInt8} (A : BldL 77 5 b s M0 M) (str : ByteArray) (hlen : s.length + str.size ≤ 140737488351232) :
    Calls Tryd.prog 38 #[.pointer (some ⟨b, 0, none⟩), .string str] w (RetM K h fun _ M' r => r = .tuple #[.int .i64 (str.size : Int), .nilIface] ∧ BldL 77 5 b (s ++ str.data.toList) M0 M') := by
  obtain ⟨p, a, c, M1, B, hp, O⟩ := A
  rcases hp with rfl | rfl
  · exact ws_nil G B O str hlen
  · exact ws_self G B O str hlen

theorem bstr_spec {K : Key} {w : World} {h M : PH}  {B : Nat} {h1 M2 : PH} {b : Nat} {s : List UInt8} (F : Full B h M) (hl : PH.le h h1) (A : BldL 77 5 b s M M2) (G2 : Wld K w h1 M2) (hd : ∀ b o, M b = some o → h b = none) :
    Calls Tryd.prog 41 #[.pointer (some ⟨b, 0, none⟩)] w (Ret K h M fun _ v => v = .string ⟨s.toArray⟩) := by
  refine (Tryd.Builder_String_any B b s w (A.is F hl G2) (F.size hl (Ly.le (Ly.bldL 77 5 b s) A) G2)).mono ?_
  rintro e w' ⟨rfl, hb⟩
  exact Ret.mk (PH.le_refl _) (G2.back F hl (Ly.le (Ly.bldL 77 5 b s) A) hb hd) rfl
end Go.Proofs
