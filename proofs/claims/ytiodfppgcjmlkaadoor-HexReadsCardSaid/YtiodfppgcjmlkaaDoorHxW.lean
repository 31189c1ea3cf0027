/- Layer 2: the laws' own texts, walked: reads, loads, parses, texts. -/
import Derived.Test.YtiodfppgcjmlkaaDoorHxZ
import Derived.Test.YtiodfppgcjmlkaaDoorHxS
import Derived.Test.YtiodfppgcjmlkaaDoorHxG
namespace Go.Proofs.YtiodfppgcjmlkaaDoor
open Go.RowKit

theorem bsize (s : ByteArray) : s.data.toList.length = s.size := rfl

set_option maxHeartbeats 1000000 in
theorem hexReads_walk (s : ByteArray) (w : World) (hT : Tabs w) :
    Calls Tryd.prog 4 #[.string s] w fun e w' => e = .returned (.bool true) ∧ Below w.heap.size w w' := by
  by_cases hbig : 3000 < s.size
  · go_enter Tryd.func4, Tryd.ntmps4
    go_wp2_with fail
    refine (hx_awake _ hT).mono ?_
    rintro e w1 ⟨rfl, hb1⟩
    go_wp2_with fail
    go_returns
    exact ⟨rfl, hb1⟩
  · go_enter Tryd.func4, Tryd.ntmps4
    go_wp2_with fail
    refine (hx_awake _ hT).mono ?_
    rintro e w1 ⟨rfl, hb1⟩
    have T1 := hT.below hb1
    go_wp2_with fail
    refine (hex_Parse s _ (by omega) T1.1).mono ?_
    rintro e w2 ⟨⟨a, rfl, ha⟩, hb2⟩
    have bel2 := hb1.trans (hb2.mono hb1.size)
    clear hb1 hb2 T1
    go_wp2_with fail
    refine (ref_hexParse s _ (by omega)).mono ?_
    rintro e w3 ⟨⟨b, rfl, hb⟩, hb3⟩
    have bel3 := bel2.trans (hb3.mono bel2.size)
    obtain rfl : b = a := ba_inj (by rw [ha.out, hb.out])
    clear hb3 bel2 ha hb
    go_wp2_with fail
    go_returns
    exact ⟨ret_bool (by simp), bel3⟩

set_option maxHeartbeats 1000000 in
theorem hexLoads_walk (s : ByteArray) (w : World) (hT : Tabs w) :
    Calls Tryd.prog 5 #[.string s] w fun e w' => e = .returned (.bool true) ∧ Below w.heap.size w w' := by
  by_cases hbig : 3000 < s.size
  · go_enter Tryd.func5, Tryd.ntmps5
    go_wp2_with fail
    refine (hx_awake _ hT).mono ?_
    rintro e w1 ⟨rfl, hb1⟩
    go_wp2_with fail
    go_returns
    exact ⟨rfl, hb1⟩
  · go_enter Tryd.func5, Tryd.ntmps5
    go_wp2_with fail
    refine (hx_awake _ hT).mono ?_
    rintro e w1 ⟨rfl, hb1⟩
    have T1 := hT.below hb1
    go_wp2_with fail
    refine (hex_Load s _ (by omega) T1.1).mono ?_
    rintro e w2 ⟨⟨a, rfl, ha⟩, hb2⟩
    have bel2 := hb1.trans (hb2.mono hb1.size)
    clear hb1 hb2 T1
    go_wp2_with fail
    refine (ref_hexLoad s _ (by omega)).mono ?_
    rintro e w3 ⟨⟨b, rfl, hb⟩, hb3⟩
    have bel3 := bel2.trans (hb3.mono bel2.size)
    obtain rfl : b = a := ba_inj (by rw [ha.out, hb.out])
    clear hb3 bel2 ha hb
    go_wp2_with fail
    go_returns
    exact ⟨ret_bool (by simp), bel3⟩

theorem parse_load {l : List UInt8} (h : (parseI l).2.2 = true) : (parseI l).1 = loadL l ∧ (parseI l).1.length = l.length / 2 := by
  unfold parseI at h ⊢
  split at h
  · cases h
  · rename_i hn
    split at h
    · cases h
    · rename_i h2
      rw [if_neg h2]
      dsimp only
      rw [load_digits (fun c hc => by have := List.findIdx?_eq_none_iff.1 hn c hc; simpa using this), pairs_length]
      exact ⟨rfl, rfl⟩

set_option maxHeartbeats 1000000 in
theorem hexParses_walk (s : ByteArray) (w : World) (hT : Tabs w) :
    Calls Tryd.prog 9 #[.string s] w fun e w' => e = .returned (.bool true) ∧ Below w.heap.size w w' := by
  by_cases hbig : 3000 < s.size
  · go_enter Tryd.func9, Tryd.ntmps9
    go_wp2_with fail
    refine (hx_awake _ hT).mono ?_
    rintro e w1 ⟨rfl, hb1⟩
    go_wp2_with fail
    go_returns
    exact ⟨rfl, hb1⟩
  · cases hok : (parseI s.data.toList).2.2 with
    | false =>
      have hE : parseE s.data.toList = 3 := by unfold parseE; rw [hok]
      have HE := Lib.hid hE
      clear hE hok
      go_enter Tryd.func9, Tryd.ntmps9
      go_wp2_with fail
      refine (hx_awake _ hT).mono ?_
      rintro e w1 ⟨rfl, hb1⟩
      have T1 := hT.below hb1
      go_wp2_with fail
      refine (hex_Parse s _ (by omega) T1.1).mono ?_
      rintro e w2 ⟨⟨a, rfl, ha⟩, hb2⟩
      rw [HE.out]
      have bel2 := hb1.trans (hb2.mono hb1.size)
      have T2 := T1.below hb2
      clear hb1 hb2 T1
      go_wp2_with fail
      refine (hex_Load s _ (by omega) T2.1).mono ?_
      rintro e w3 ⟨⟨b, rfl, hb⟩, hb3⟩
      have bel3 := bel2.trans (hb3.mono bel2.size)
      have hsz : b.size ≤ s.size / 2 := by have h := load_length s.data.toList; rw [← hb.out, bsize, bsize] at h; exact h
      have hszI : (b.size : Int) ≤ (s.size : Int) / 2 := by omega
      clear hb3 bel2 ha hb
      go_wp2_with fail
      go_returns
      exact ⟨rfl, bel3⟩
    | true =>
      have hE : parseE s.data.toList = 0 := by unfold parseE; rw [hok]
      have HE := Lib.hid hE
      obtain ⟨p1, p2⟩ := parse_load hok
      have HP1 := Lib.hid p1
      have HP2 := Lib.hid p2
      clear hE hok p1 p2
      go_enter Tryd.func9, Tryd.ntmps9
      go_wp2_with fail
      refine (hx_awake _ hT).mono ?_
      rintro e w1 ⟨rfl, hb1⟩
      have T1 := hT.below hb1
      go_wp2_with fail
      refine (hex_Parse s _ (by omega) T1.1).mono ?_
      rintro e w2 ⟨⟨a, rfl, ha⟩, hb2⟩
      rw [HE.out]
      have bel2 := hb1.trans (hb2.mono hb1.size)
      have T2 := T1.below hb2
      clear hb1 hb2 T1
      go_wp2_with fail
      refine (hex_Load s _ (by omega) T2.1).mono ?_
      rintro e w3 ⟨⟨b, rfl, hb⟩, hb3⟩
      have bel3 := bel2.trans (hb3.mono bel2.size)
      have hsz : a.size = s.size / 2 := by have h := HP2.out; rw [← ha.out, bsize, bsize] at h; exact h
      obtain rfl : b = a := ba_inj (by rw [ha.out, hb.out, HP1.out])
      have hszI : (b.size : Int) ≤ (s.size : Int) / 2 := by omega
      have hszE : ((b.size : Int) == (s.size : Int) / 2) = true := by rw [beq_iff_eq]; omega
      clear hb3 bel2 ha hb hsz
      go_wp2_with fail
      go_returns
      exact ⟨ret_bool (by simp), bel3⟩

set_option maxHeartbeats 1000000 in
theorem hexTexts_walk (s : ByteArray) (w : World) (hT : Tabs w) :
    Calls Tryd.prog 3 #[.string s] w fun e w' => e = .returned (.bool true) ∧ Below w.heap.size w w' := by
  by_cases hbig : 3000 < s.size
  · go_enter Tryd.func3, Tryd.ntmps3
    go_wp2_with fail
    refine (hx_awake _ hT).mono ?_
    rintro e w1 ⟨rfl, hb1⟩
    go_wp2_with fail
    go_returns
    exact ⟨rfl, hb1⟩
  · go_enter Tryd.func3, Tryd.ntmps3
    go_wp2_with fail
    refine (hx_awake _ hT).mono ?_
    rintro e w1 ⟨rfl, hb1⟩
    have T1 := hT.below hb1
    go_wp2_with fail
    refine (hex_Text s _ (by omega) T1.1).mono ?_
    rintro e w2 ⟨⟨t, rfl, ht⟩, hb2⟩
    have bel2 := hb1.trans (hb2.mono hb1.size)
    have T2 := T1.below hb2
    have htsz : t.size = 2 * s.size := by have h := congrArg List.length ht.out; rw [hexT_length, bsize, bsize] at h; exact h
    have HTZ := Lib.hid htsz
    clear hb1 hb2 T1 htsz
    go_wp2_with fail
    refine (hex_Parse t _ (by have := HTZ.out; omega) T2.1).mono ?_
    rintro e w3 ⟨⟨b, he, hb⟩, hb3⟩
    unfold parseE at he
    rw [ht.out, parseI_hexT] at he
    subst he
    obtain rfl : b = s := ba_inj (by rw [hb.out, ht.out, parseI_hexT])
    have bel3 := bel2.trans (hb3.mono bel2.size)
    have T3 := T2.below hb3
    clear hb hb3 bel2 T2
    go_wp2_with fail
    refine (law_great t _ (by have := HTZ.out; omega)).mono ?_
    rintro e w4 ⟨⟨g, rfl, hg⟩, hb4⟩
    have hgsz : g.size = t.size := by have h := congrArg List.length hg.out; rw [List.length_map, bsize, bsize] at h; exact h
    have HGZ := Lib.hid hgsz
    have bel4 := bel3.trans (hb4.mono bel3.size)
    have T4 := T3.below hb4
    clear hb4 bel3 T3 hgsz
    go_wp2_with fail
    refine (hex_Parse g _ (by have := HTZ.out; have := HGZ.out; omega) T4.1).mono ?_
    rintro e w5 ⟨⟨c, he, hc⟩, hb5⟩
    unfold parseE at he
    rw [hg.out, ht.out, parse_up] at he
    subst he
    obtain rfl : c = b := ba_inj (by rw [hc.out, hg.out, ht.out, parse_up])
    have bel5 := bel4.trans (hb5.mono bel4.size)
    clear hc hb5 bel4 T4
    go_wp2_with fail
    refine (ref_hexText c _ (by omega)).mono ?_
    rintro e w6 ⟨⟨r, rfl, hr⟩, hb6⟩
    obtain rfl : r = t := ba_inj (by rw [hr.out, ht.out])
    have bel6 := bel5.trans (hb6.mono bel5.size)
    clear hb6 bel5 hr ht
    go_wp2_with fail
    go_returns
    exact ⟨ret_bool (by simp), bel6⟩
end Go.Proofs.YtiodfppgcjmlkaaDoor
