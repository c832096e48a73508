-- Printed by prune.py: the used part of a text.
import Derived.PlainAid
namespace Go.Proofs.YtjlabkibpknkpaaDoor.PkP
set_option linter.unusedVariables false
def encN (x : Nat) : List Int := if h : x < 128 then [(x : Int)] else (((x % 128 + 128 : Nat) : Int)) :: encN (x / 128)
termination_by x
decreasing_by omega
def cl (n : Int) : Nat := if n < 0 then 0 else if 1099511627776 < n then 1099511627776 else n.toNat
def enc (n : Int) : List Int := encN (cl n)
end Go.Proofs.YtjlabkibpknkpaaDoor.PkP
