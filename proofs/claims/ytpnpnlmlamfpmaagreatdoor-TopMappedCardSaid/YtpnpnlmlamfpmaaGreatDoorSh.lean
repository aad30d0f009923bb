/-
  Short names.
-/
namespace Go.Proofs.YtpnpnlmlamfpmaaGreatDoor
universe u
abbrev ii := @inferInstance.{u}
abbrev sA := @List.setIfInBounds_toArray.{u}
abbrev sB := @List.set_cons_zero.{u}
abbrev sC := @List.set_cons_succ.{u}
end Go.Proofs.YtpnpnlmlamfpmaaGreatDoor
