/- comitialaw10's Same. Cut out of DiskP. -/
import Derived.Test.YtfhbbmaimaabnaaLDiskQ
namespace Go.Proofs.Ytfhbbmaimaabnaa
open Go.RowKit Go.Cx Go.F64
set_option linter.unusedVariables false
set_option linter.unusedSimpArgs false

/-! ### Same -/
set_option maxRecDepth 100000 in
set_option maxHeartbeats 1000000 in
theorem same_any (p q : Nat) (F : Nat → Prop) (x : Nat) (d : Dk) (w : World) (hd : DiskAt w p q d) (hr : RefAt w F x d) :
    Calls Try.prog 19 #[.pointer (some ⟨p, 0, none⟩), .pointer (some ⟨x, 0, none⟩)] w (True_ w) := by
  have HD := hid hd
  have HR := hid hr
  clear hd hr
  go_enter Try.func19, Try.ntmps19
  cases hdd : d.dead with
  | true =>
    have ND := hid hdd
    clear hdd
    go_wp2_with (first
      | (go_at_call 33; refine (read_any p q d _ HD.out).mono ?_; rintro e w1 (⟨_, rfl, hc1⟩ | ⟨ht, _⟩); rotate_left; (exact absurd (ND.out.symm.trans ht) (by simp)); have C1 := hid hc1; have R1 := hid (HR.out.ch hc1 id (fun _ _ => id)); clear hc1)
      | (go_at_call 36; refine (rread_any F x d _ R1.out).mono ?_; rintro e w2 (⟨_, rfl, hc2⟩ | ⟨ht, _⟩); rotate_left; (exact absurd (ND.out.symm.trans ht) (by simp)); have C2 := hid (C1.out.f hc2); have f0 := string_ofN (l := []) (Sl.nil w2 1); obtain ⟨_, _, _, x1, _, _, x4, _⟩ := (R1.out.ch hc2 id (fun _ _ => id)).raw.open_; have D2 := hid (HD.out.ch C2.out id id); clear hc2))
    go_quiet ((first
      | (go_at_call 41; exact Calls.quiet_of_same ((synced_any p q d _ (D2.out.drewN _)).mono fun e w' h => ⟨h.1, h.2.symm⟩))
      | (go_at_call 40; exact Calls.quiet_of_same ((dead_any p q d _ (D2.out.drewN _)).mono fun e w' h => ⟨h.1, h.2.symm⟩))))
    go_wp2
    go_ret
    exact ⟨by simp, C2.out.drewN _⟩
  | false =>
    have ND := hid hdd
    clear hdd
    go_wp2_with (first
      | (go_at_call 33; refine (read_any p q d _ HD.out).mono ?_; rintro e w1 (⟨ht, _⟩ | ⟨_, a1, c1, rfl, ho1, hc1⟩); (exact absurd (ND.out.symm.trans ht) (by simp)); have C1 := hid hc1; have O1 := hid ho1; have R1 := hid (HR.out.ch hc1 id (fun _ _ => id)); clear hc1 ho1)
      | (go_at_call 36; refine (rread_any F x d _ R1.out).mono ?_; rintro e w2 (⟨ht, _⟩ | ⟨_, a2, c2, rfl, ho2, hc2⟩); (exact absurd (ND.out.symm.trans ht) (by simp)); have C2 := hid (C1.out.f hc2); have f1 := string_ofN (O1.out.f hc2).sl; have f2 := string_ofN ho2.sl; obtain ⟨_, _, _, x1, _, _, x4, _⟩ := (R1.out.ch hc2 id (fun _ _ => id)).raw.open_; have D2 := hid (HD.out.ch C2.out id id); clear hc2 ho2))
    go_quiet ((first
      | (go_at_call 41; exact Calls.quiet_of_same ((synced_any p q d _ (D2.out.drewN _)).mono fun e w' h => ⟨h.1, h.2.symm⟩))
      | (go_at_call 40; exact Calls.quiet_of_same ((dead_any p q d _ (D2.out.drewN _)).mono fun e w' h => ⟨h.1, h.2.symm⟩))))
    go_wp2
    go_ret
    exact ⟨by simp, C2.out.drewN _⟩
end Go.Proofs.Ytfhbbmaimaabnaa
