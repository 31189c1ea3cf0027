/- Layer 12, the document's: a line's parts, walked (a line without a label). -/
import Derived.Test.YthfdjfgmgoafnaaDoorAd
namespace Go.Proofs.YthfdjfgmgoafnaaDoor
open Go.RowKit

def trimB (s : ByteArray) : ByteArray := ⟨(trimL s.data.toList).toArray⟩
theorem trimB_list (s : ByteArray) : (trimB s).data.toList = trimL s.data.toList := rfl
theorem ref12_trimV (s : ByteArray) (w : World) (hs : s.size ≤ 1000000) :
    Calls Tryd.prog 32 #[.string s] w fun e w' => e = .returned (.string (trimB s)) ∧ w' = w := by
  refine (ref12_trim s w hs).mono ?_
  rintro e w' ⟨⟨t, rfl, ht, -⟩, rfl⟩
  exact ⟨by rw [ba_eq ht.out]; rfl, rfl⟩
theorem dropWhile_len (p : UInt8 → Bool) : ∀ l : List UInt8, (l.dropWhile p).length ≤ l.length
  | [] => Nat.le_refl _
  | x :: r => by
    have := dropWhile_len p r
    rw [List.dropWhile_cons]
    split <;> simp <;> omega
theorem trimL_len (l : List UInt8) : (trimL l).length ≤ l.length := by
  unfold trimL trimR
  rw [List.length_reverse]
  have h1 := dropWhile_len blankB (l.dropWhile blankB).reverse
  rw [List.length_reverse] at h1
  exact Nat.le_trans h1 (dropWhile_len blankB l)
theorem size_len (t : ByteArray) : t.size = t.data.toList.length := rfl
theorem empty_of {t : ByteArray} (h : t.data.toList = []) : t = ⟨#[]⟩ := ba_eq h
theorem pos_of {t : ByteArray} (h : t.data.toList ≠ []) : 0 < t.size := List.length_pos_iff.2 h
theorem all_get {l : List UInt8} {p : UInt8 → Bool} (h : l.all p = true) (i : Nat) (hi : i < l.length) : p l[i] = true :=
  List.all_eq_true.1 h _ (List.getElem_mem hi)

/-- What a line's reading rests on. -/
theorem lineA_some {l : List UInt8} {o : List UInt8} {ags : List (List UInt8)} (h : lineA l = some (o, ags)) :
    ∃ u, u = trimL (l.take (findL 35 l)) ∧ findL 58 u = u.length ∧ ((u = [] ∧ o = [] ∧ ags = []) ∨ (u ≠ [] ∧ o = u.take (blankAt u) ∧ o ≠ [] ∧ o.all smallB = true ∧ argsA (u.length + 1) (trimL (u.drop (blankAt u))) = some ags)) := by
  refine ⟨_, rfl, ?_⟩
  unfold lineA at h
  simp only at h
  generalize trimL (l.take (findL 35 l)) = u at h ⊢
  split at h
  · cases h
  · rename_i h1
    refine ⟨by have := findL_le 58 u; omega, ?_⟩
    split at h
    · rename_i h2
      injection h with h
      injection h with h3 h4
      exact .inl ⟨h2, h3.symm, h4.symm⟩
    · rename_i h2
      split at h
      · cases h
      · rename_i h3
        obtain ⟨ags', h4, h5⟩ := Option.map_eq_some_iff.1 h
        injection h5 with h6 h7
        subst h6 h7
        refine .inr ⟨h2, rfl, fun e => h3 (.inl e), ?_, h4⟩
        cases hh : (u.take (blankAt u)).all smallB with
        | true => rfl
        | false => exact absurd (.inr hh) h3
theorem argsA_some {f : Nat} {r : List UInt8} {ags : List (List UInt8)} (h : argsA f r = some ags) :
    ∃ g, f = g + 1 ∧ ((r = [] ∧ ags = []) ∨ (r ≠ [] ∧ trimL (r.take (findL 44 r)) ≠ [] ∧ findL 44 r + 1 ≠ r.length ∧ ((findL 44 r = r.length ∧ ags = [trimL (r.take (findL 44 r))]) ∨
      (findL 44 r < r.length ∧ trimL (r.drop (findL 44 r + 1)) ≠ [] ∧ ∃ bs, argsA g (trimL (r.drop (findL 44 r + 1))) = some bs ∧ ags = trimL (r.take (findL 44 r)) :: bs)))) := by
  cases f with
  | zero => cases h
  | succ g =>
    refine ⟨g, rfl, ?_⟩
    unfold argsA at h
    simp only at h
    split at h
    · rename_i h1
      injection h with h
      exact .inl ⟨h1, h.symm⟩
    · rename_i h1
      split at h
      · cases h
      · rename_i h2
        refine .inr ⟨h1, fun e => h2 (.inl e), fun e => h2 (.inr e), ?_⟩
        split at h
        · rename_i h3
          injection h with h
          exact .inl ⟨h3, h.symm⟩
        · rename_i h3
          split at h
          · cases h
          · rename_i h4
            obtain ⟨bs, h5, h6⟩ := Option.map_eq_some_iff.1 h
            exact .inr ⟨by have := findL_le 44 r; omega, h4, bs, h5, h6.symm⟩
theorem blankAt_step (l : List UInt8) (i : Nat) (h : i < l.length) : blankAt (l.drop i) = if blankB l[i] then 0 else blankAt (l.drop (i + 1)) + 1 := by
  rw [List.drop_eq_getElem_cons h]
  rfl
theorem blankAt_stepB (u : ByteArray) (i : Nat) (h : i < u.size) : blankAt (u.data.toList.drop i) = if blankB (u[i]'h) then 0 else blankAt (u.data.toList.drop (i + 1)) + 1 := blankAt_step _ i h

set_option maxRecDepth 100000 in
set_option maxHeartbeats 4000000 in
theorem ref12_Line (s : ByteArray) (o : List UInt8) (ags : List (List UInt8)) (w : World) (hs : s.size ≤ 100000) (hl : lineA s.data.toList = some (o, ags)) :
    Calls Tryd.prog 19 #[.string s] w fun e w' => (∃ ob L c, e = .returned (.tuple #[.string ⟨#[]⟩, .string ob, .slice L ags.length c, .int .i64 0]) ∧ Hid (ob.data.toList = o) ∧ Sl w' w'.heap.size L ags.length (ags.map sv) ∧ ags.length ≤ c) ∧ Below w.heap.size w w' := by
  obtain ⟨ul, hu, hcol, hcase⟩ := lineA_some hl
  clear hl
  have KF := Lib.hid ref12_find
  have KT := Lib.hid ref12_trimV
  have KB := Lib.hid ref12_blank
  have KW := Lib.hid ref12_isWord
  obtain ⟨k, hk⟩ : ∃ k, findL 35 s.data.toList = k := ⟨_, rfl⟩
  have hks : k ≤ s.size := by rw [← hk]; exact findL_le 35 _
  rw [hk] at hu
  have K1 := Lib.hid (fun W => KF.out s 35 W (by omega))
  rw [hk] at K1
  clear hk
  obtain ⟨x1, hx1⟩ : ∃ x, s.extract 0 k = x := ⟨_, rfl⟩
  have hz1 : x1.size ≤ 100000 := by rw [← hx1, ByteArray.size_extract]; omega
  have hd1 : x1.data.toList = s.data.toList.take k := by rw [← hx1, ext_take]
  rw [← hd1] at hu
  have K2 := Lib.hid (fun W => KT.out x1 W (by omega))
  obtain ⟨u, hub⟩ : ∃ u, trimB x1 = u := ⟨_, rfl⟩
  have hul : u.data.toList = ul := by rw [← hub, hu]; rfl
  have huz : u.size ≤ 100000 := by
    have h1 := trimL_len x1.data.toList
    rw [← hu, ← hul] at h1
    have h2 := size_len u
    have h3 := size_len x1
    omega
  rw [hub] at K2
  clear hub hu hd1 hz1
  subst hul
  have hc58 : ((findL 58 u.data.toList : Nat) : Int) = (u.size : Int) := by rw [hcol]; rfl
  have K3 := Lib.hid (fun W => KF.out u 58 W (by omega))
  rw [hc58] at K3
  clear hc58 hcol
  have HX1 := Lib.hid hx1
  clear hx1
  have hkI : (k : Int) ≤ s.size := by omega
  have hk0 : (0 : Int) ≤ k := by omega
  have hsI : (s.size : Int) ≤ 100000 := by omega
  have huI : (u.size : Int) ≤ 100000 := by omega
  rcases hcase with ⟨h1, h2, h3⟩ | ⟨h1, h2, h3, h4, h5⟩
  · subst h2 h3
    obtain rfl := empty_of h1
    clear h1
    go_enter Tryd.func19, Tryd.ntmps19
    go_wp2_with fail
    refine (K1.out _).mono ?_
    rintro e w1 ⟨rfl, hw1⟩
    subst w1
    go_wp2_with fail
    rw [HX1.out]
    refine (K2.out _).mono ?_
    rintro e w1 ⟨rfl, hw1⟩
    subst w1
    go_wp2_with fail
    refine (K3.out _).mono ?_
    rintro e w1 ⟨rfl, hw1⟩
    subst w1
    go_wp2_with fail
    go_returns
    exact ⟨⟨⟨#[]⟩, none, 0, rfl, Lib.hid rfl, Sl.nil, Nat.le_refl _⟩, Below.refl _ _⟩
  · have hup := pos_of h1
    obtain ⟨ne1, ne2⟩ := ne_nil u hup
    obtain ⟨n, hn⟩ : ∃ n, blankAt u.data.toList = n := ⟨_, rfl⟩
    have hnu : n ≤ u.size := by rw [← hn]; exact blankAt_le _
    rw [hn] at h2 h5
    have HN := Lib.hid hn
    obtain ⟨ob, hob⟩ : ∃ x, u.extract 0 n = x := ⟨_, rfl⟩
    have hobl : ob.data.toList = o := by rw [← hob, ext_take, h2]
    have hobz : ob.size ≤ 100000 := by rw [← hob, ByteArray.size_extract]; omega
    have K4 := Lib.hid (fun W => KW.out ob W (pos_of (by rw [hobl]; exact h3)) (by omega) (fun i h => all_get (by rw [hobl]; exact h4) i h))
    obtain ⟨y1, hy1⟩ : ∃ x, u.extract n u.size = x := ⟨_, rfl⟩
    have hy1l : y1.data.toList = u.data.toList.drop n := by rw [← hy1, ext_drop]
    have hy1z : y1.size ≤ 100000 := by rw [← hy1, ByteArray.size_extract]; omega
    have K5 := Lib.hid (fun W => KT.out y1 W (by omega))
    obtain ⟨r, hr⟩ : ∃ r, trimB y1 = r := ⟨_, rfl⟩
    have hrl : r.data.toList = trimL (u.data.toList.drop n) := by rw [← hr, ← hy1l]; rfl
    have hrz : r.size ≤ 100000 := by
      have h1 := trimL_len (u.data.toList.drop n)
      rw [← hrl, List.length_drop] at h1
      have h2 := size_len r
      have h3 := size_len u
      omega
    rw [hr] at K5
    rw [← hrl] at h5
    have H5 : Hid (∃ f, argsA f r.data.toList = some ags) := Lib.hid ⟨_, h5⟩
    have HOB := Lib.hid hob
    have HOBL := Lib.hid hobl
    have HY1 := Lib.hid hy1
    clear hr hrl h5 hn hob hobl hy1 hy1l h1 h2 h3 h4
    go_enter Tryd.func19, Tryd.ntmps19
    go_wp2_with fail
    refine (K1.out _).mono ?_
    rintro e w1 ⟨rfl, hw1⟩
    subst w1
    go_wp2_with fail
    rw [HX1.out]
    refine (K2.out _).mono ?_
    rintro e w1 ⟨rfl, hw1⟩
    subst w1
    go_wp2_with fail
    refine (K3.out _).mono ?_
    rintro e w1 ⟨rfl, hw1⟩
    subst w1
    go_wp2_with fail
    go_loopw [8] (fun iv wr => ∃ i : Nat, i ≤ u.size ∧ iv = .int .i64 i ∧ Hid (n = i + blankAt (u.data.toList.drop i)) ∧ wr = w) (fun iv _ => u.size - (intOf iv).toNat)
    case atStart => exact ⟨0, Nat.zero_le _, rfl, Lib.hid (by rw [← HN.out]; simp), rfl⟩
    case round =>
      obtain ⟨i, hi, rfl, HL, hw⟩ := hrel
      subst wr
      by_cases hlt : i < u.size ∧ n ≠ i
      · obtain ⟨hlt, hni⟩ := hlt
        have hiI : (i : Int) < u.size := by omega
        have hi0 : (0 : Int) ≤ i := by omega
        have KU := Lib.hid (KB.out (u[i]'hlt) w)
        have hst := blankAt_stepB u i hlt
        cases hb : blankB (u[i]'hlt) with
        | true =>
          rw [if_pos hb] at hst
          have := HL.out
          omega
        | false =>
          rw [if_neg (by rw [hb]; decide)] at hst
          rw [hb] at KU
          have HM : Hid (n = (i + 1) + blankAt (u.data.toList.drop (i + 1))) := Lib.hid (by have := HL.out; omega)
          clear hst HL hni hb
          go_wp2_with fail
          refine KU.out.mono ?_
          rintro e w1 ⟨rfl, hw1⟩
          subst w1
          go_wp2_with fail
          go_roundw
          case rel => exact ⟨i + 1, hlt, by simp, HM, trivial⟩
          case measure => simp [intOf]; omega
      · have hin : n = i := by
          by_cases h : i < u.size
          · omega
          · have := HL.out
            have e : u.data.toList.drop i = [] := List.drop_eq_nil_of_le (show u.data.toList.length ≤ i by have := size_len u; omega)
            rw [e] at this
            simpa [blankAt] using this
        subst hin
        have hnI : (n : Int) ≤ u.size := by omega
        have hn0 : (0 : Int) ≤ n := by omega
        have hend : u.size ≤ n ∨ ∃ h : n < u.size, blankB (u[n]'h) = true := by
          by_cases h : n < u.size
          · refine .inr ⟨h, ?_⟩
            have hst := blankAt_stepB u n h
            cases hb : blankB (u[n]'h) with
            | true => rfl
            | false =>
              rw [if_neg (by rw [hb]; decide)] at hst
              have := HL.out
              omega
          · exact .inl (by omega)
        clear HL hlt hi
        rcases hend with hge | ⟨hlt, hbl⟩
        all_goals
          first
            | (have KU := Lib.hid (KB.out (u[n]'hlt) w); rw [hbl] at KU; have hiI : (n : Int) < u.size := by omega)
            | (have hgI : ¬ (n : Int) < u.size := by omega)
          (try clear hbl)
          go_wp2_with fail
          try (refine KU.out.mono ?_; rintro e w1 ⟨rfl, hw1⟩; subst w1; go_wp2_with fail)
          go_quiet ((rw [HY1.out]; exact Calls.quiet_of_same (K5.out _)))
          go_wp2_with fail
          rw [HOB.out]
          refine (K4.out _).mono ?_
          rintro e w1 ⟨rfl, hw1⟩
          subst w1
          go_wp2_with fail
          go_loopw [10, 11] (fun rv v wr => ∃ (f : Nat) (t : ByteArray) (done rem : List (List UInt8)), rv = .string t ∧ Hid (argsA f t.data.toList = some rem) ∧ Hid (ags = done ++ rem) ∧ done.length + t.size ≤ 100000 ∧ wr.ownsRow w.heap.size 9 1 v done.length (done.map sv) ∧ Below w.heap.size w wr) (fun rv _ _ => match rv with | .string u => u.size | _ => 0)
          case atStart =>
            obtain ⟨f, hf⟩ := H5.out
            exact ⟨f, r, [], ags, rfl, Lib.hid hf, Lib.hid rfl, by simpa using hrz, World.ownsRow_nil _ _ _ _, ⟨rfl, rfl, rfl, Nat.le_refl _, fun _ _ => rfl⟩⟩
          case round =>
            clear H5 hrz
            (try clear KU)
            obtain ⟨f, t, done, rem, rfl, HA, HD, hsz, hown, hb⟩ := hrel
            have hbz := hb.size
            obtain ⟨g, rfl, hc⟩ := argsA_some HA.out
            clear HA
            rcases hc with ⟨a1, rfl⟩ | ⟨a1, a2, a3, hc⟩
            · obtain rfl := empty_of a1
              clear a1
              have he : done = ags := by have := HD.out; rw [this, List.append_nil]
              subst he
              obtain ⟨L, c, rfl, hc, -, hS⟩ := Sl.of_own hown
              have HS := Lib.hid hS
              clear hown hS HD
              go_wp2_with fail
              go_returns
              exact ⟨⟨ob, L, c, rfl, HOBL, HS.out, hc⟩, hb⟩
            · have htp := pos_of a1
              obtain ⟨te1, te2⟩ := ne_nil t htp
              obtain ⟨k, hk⟩ : ∃ k, findL 44 t.data.toList = k := ⟨_, rfl⟩
              have hkt : k ≤ t.size := by rw [← hk]; exact findL_le 44 _
              have F1 := Lib.hid (fun W => KF.out t 44 W (by omega))
              rw [hk] at a2 a3 hc F1
              clear hk a1
              obtain ⟨x, hx⟩ : ∃ x, t.extract 0 k = x := ⟨_, rfl⟩
              have hxl : x.data.toList = t.data.toList.take k := by rw [← hx, ext_take]
              have hxz : x.size ≤ 100000 := by rw [← hx, ByteArray.size_extract]; omega
              have F2 := Lib.hid (fun W => KT.out x W (by omega))
              obtain ⟨y, hy⟩ : ∃ y, trimB x = y := ⟨_, rfl⟩
              have hyl : y.data.toList = trimL (t.data.toList.take k) := by rw [← hy, ← hxl]; rfl
              rw [hy] at F2
              rw [← hyl] at a2 hc
              have hyp := pos_of a2
              obtain ⟨ye1, ye2⟩ := ne_nil y hyp
              have a3s : k + 1 ≠ t.size := a3
              have q1 : ((k : Int) + 1 == (t.size : Int)) = false := by rw [beq_eq_false_iff_ne]; omega
              have HXE := Lib.hid hx
              have hkI : (k : Int) ≤ t.size := by omega
              have hk0 : (0 : Int) ≤ k := by omega
              have htI : (t.size : Int) ≤ 100000 := by omega
              clear hx hxl hxz hy hyl a2 a3
              rcases hc with ⟨c1, rfl⟩ | ⟨c1, c2, bs, c3, rfl⟩
              · have c1s : k = t.size := c1
                subst c1s
                clear c1
                have hxt : x = t := by rw [← HXE.out]; simp
                rw [hxt] at F2
                clear hxt
                have HN : Hid (ags = done ++ [y.data.toList]) := HD
                clear HD
                go_wp2_with fail
                refine (F1.out _).mono ?_
                rintro e w1 ⟨rfl, hw1⟩
                subst w1
                go_wp2_with fail
                refine (F2.out _).mono ?_
                rintro e w1 ⟨rfl, hw1⟩
                subst w1
                go_wp2_with (at_builtin; refine wpList_append_new rfl _ _ 53 rfl w.heap.size (.string ⟨#[]⟩) 1 16 Tryd.underlying53 (by kernel_rfl) rfl (by decide) _ done.length _ rfl hown 1 rfl rfl (by simp [Value.oneCell']) (by omega) (by omega) hbz ?_; intro v1 w3 hown1 hb3 hk)
                have HO : Hid (w3.ownsRow w.heap.size 9 1 v1 ags.length (ags.map sv)) := Lib.hid (by
                  rw [HN.out, List.length_append, List.map_append]
                  have k := hown1
                  simp only [sv_of (rfl : y.data.toList = _)] at k
                  exact k)
                have HB3 := Lib.hid (hb.trans hb3)
                obtain ⟨L, c, rfl, hc, -, hS⟩ := Sl.of_own HO.out
                have HS := Lib.hid hS
                clear hown hown1 hb3 hk hS HO hb
                go_wp2_with fail
                go_returns
                exact ⟨⟨ob, L, c, rfl, HOBL, HS.out, hc⟩, HB3.out⟩
              · have c1s : k < t.size := c1
                have q2 : ((k : Int) == (t.size : Int)) = false := by rw [beq_eq_false_iff_ne]; omega
                have hk1 : (k : Int) + 1 ≤ t.size := by omega
                obtain ⟨x2, hx2⟩ : ∃ x, t.extract (k + 1) t.size = x := ⟨_, rfl⟩
                have hx2l : x2.data.toList = t.data.toList.drop (k + 1) := by rw [← hx2, ext_drop]
                have hx2z : x2.size = t.size - (k + 1) := by rw [← hx2, ByteArray.size_extract]; omega
                have F3 := Lib.hid (fun W => KT.out x2 W (by omega))
                obtain ⟨t2, ht2⟩ : ∃ y, trimB x2 = y := ⟨_, rfl⟩
                have ht2l : t2.data.toList = trimL (t.data.toList.drop (k + 1)) := by rw [← ht2, ← hx2l]; rfl
                have ht2z : t2.size ≤ t.size - (k + 1) := by
                  have h1 := trimL_len (t.data.toList.drop (k + 1))
                  rw [← ht2l, List.length_drop] at h1
                  have h2 := size_len t2
                  have h3 := size_len t
                  omega
                rw [ht2] at F3
                rw [← ht2l] at c2 c3
                have ht2p := pos_of c2
                obtain ⟨ze1, ze2⟩ := ne_nil t2 ht2p
                have HX2 := Lib.hid hx2
                have HN : Hid (ags = (done ++ [y.data.toList]) ++ bs) := Lib.hid (by rw [HD.out, List.append_assoc]; rfl)
                have HC := Lib.hid c3
                have HZ := Lib.hid ht2z
                clear hx2 hx2l hx2z ht2 ht2l c1 c2 c3 HD ht2z
                go_wp2_with fail
                refine (F1.out _).mono ?_
                rintro e w1 ⟨rfl, hw1⟩
                subst w1
                go_wp2_with fail
                rw [HXE.out]
                refine (F2.out _).mono ?_
                rintro e w1 ⟨rfl, hw1⟩
                subst w1
                go_wp2_with (at_builtin; refine wpList_append_new rfl _ _ 53 rfl w.heap.size (.string ⟨#[]⟩) 1 16 Tryd.underlying53 (by kernel_rfl) rfl (by decide) _ done.length _ rfl hown 1 rfl rfl (by simp [Value.oneCell']) (by omega) (by omega) hbz ?_; intro v1 w3 hown1 hb3 hk)
                have HO : Hid (w3.ownsRow w.heap.size 9 1 v1 (done ++ [y.data.toList]).length ((done ++ [y.data.toList]).map sv)) := Lib.hid (by
                  rw [List.length_append, List.map_append]
                  have k := hown1
                  simp only [sv_of (rfl : y.data.toList = _)] at k
                  exact k)
                have HB3 := Lib.hid (hb.trans hb3)
                clear hown hown1 hb3 hk hb
                go_wp2_with fail
                rw [HX2.out]
                refine (F3.out _).mono ?_
                rintro e w1 ⟨rfl, hw1⟩
                subst w1
                go_wp2_with fail
                go_roundw
                case rel => exact ⟨g, t2, _, bs, rfl, HC, HN, by have := HZ.out; rw [List.length_append]; simp; omega, HO.out, HB3.out⟩
                case measure =>
                  show t2.size < t.size
                  have := HZ.out
                  omega
end Go.Proofs.YthfdjfgmgoafnaaDoor
