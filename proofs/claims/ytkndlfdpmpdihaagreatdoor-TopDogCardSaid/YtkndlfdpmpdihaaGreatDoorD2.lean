/- TopDog's rounds in plain numbers; the loop's head and the act. No conditions beyond those that each statement shows. -/
import Derived.Test.YtkndlfdpmpdihaaGreatDoorE7
import Derived.Test.YtkndlfdpmpdihaaGreatDoorE6
import Derived.Test.YtkndlfdpmpdihaaGreatDoorD1
import Derived.WalkKit
import Derived.WalkLawsBesides
import Derived.WalkSpells
import Derived.RegionTactic
import Derived.StillTailTactics
set_option linter.unusedVariables false
set_option linter.unusedSimpArgs false
namespace Go.Ev.Lit
open Go
set_option maxRecDepth 100000
def l00 : List Obj := [(.cells #[(Lit.u64 1), (Lit.u64 10), (Lit.u64 100), (Lit.u64 1000), (Lit.u64 10000), (Lit.u64 100000), (Lit.u64 1000000), (Lit.u64 10000000), (Lit.u64 100000000), (Lit.u64 1000000000), (Lit.u64 10000000000), (Lit.u64 100000000000), (Lit.u64 1000000000000), (Lit.u64 10000000000000), (Lit.u64 100000000000000), (Lit.u64 1000000000000000), (Lit.u64 10000000000000000), (Lit.u64 100000000000000000), (Lit.u64 1000000000000000000), (Lit.u64 10000000000000000000)] 0 (0, 21)),
 (.cells #[] 0 (1, 1)),
 (.cells #[(Lit.u8 0), (Lit.u8 1), (Lit.u8 56), (Lit.u8 2), (Lit.u8 57), (Lit.u8 49), (Lit.u8 28), (Lit.u8 3), (Lit.u8 61), (Lit.u8 58), (Lit.u8 42), (Lit.u8 50), (Lit.u8 38), (Lit.u8 29), (Lit.u8 17), (Lit.u8 4), (Lit.u8 62), (Lit.u8 47), (Lit.u8 59), (Lit.u8 36), (Lit.u8 45), (Lit.u8 43), (Lit.u8 51), (Lit.u8 22), (Lit.u8 53), (Lit.u8 39), (Lit.u8 33), (Lit.u8 30), (Lit.u8 24), (Lit.u8 18), (Lit.u8 12), (Lit.u8 5), (Lit.u8 63), (Lit.u8 55), (Lit.u8 48), (Lit.u8 27), (Lit.u8 60), (Lit.u8 41), (Lit.u8 37), (Lit.u8 16), (Lit.u8 46), (Lit.u8 35), (Lit.u8 44), (Lit.u8 21), (Lit.u8 52), (Lit.u8 32), (Lit.u8 23), (Lit.u8 11), (Lit.u8 54), (Lit.u8 26), (Lit.u8 40), (Lit.u8 15), (Lit.u8 34), (Lit.u8 20), (Lit.u8 31), (Lit.u8 10), (Lit.u8 25), (Lit.u8 14), (Lit.u8 19), (Lit.u8 9), (Lit.u8 13), (Lit.u8 8), (Lit.u8 7), (Lit.u8 6)] 0 (0, 65)),
 (.cells #[] 0 (1, 1)),
 (.cells #[] 0 (1, 1)),
 (.cells #[] 0 (1, 1)),
 (.cells #[] 0 (1, 1)),
 (.cells #[] 0 (1, 1)),
 (.cells #[] 0 (1, 1))]
def lT0 : List Obj := [(.cells #[(Lit.u64 1), (Lit.u64 10), (Lit.u64 100), (Lit.u64 1000), (Lit.u64 10000), (Lit.u64 100000), (Lit.u64 1000000), (Lit.u64 10000000), (Lit.u64 100000000), (Lit.u64 1000000000), (Lit.u64 10000000000), (Lit.u64 100000000000), (Lit.u64 1000000000000), (Lit.u64 10000000000000), (Lit.u64 100000000000000), (Lit.u64 1000000000000000), (Lit.u64 10000000000000000), (Lit.u64 100000000000000000), (Lit.u64 1000000000000000000), (Lit.u64 10000000000000000000)] 0 (0, 21)),
 (.cells #[] 0 (1, 1)),
 (.cells #[(Lit.u8 0), (Lit.u8 1), (Lit.u8 56), (Lit.u8 2), (Lit.u8 57), (Lit.u8 49), (Lit.u8 28), (Lit.u8 3), (Lit.u8 61), (Lit.u8 58), (Lit.u8 42), (Lit.u8 50), (Lit.u8 38), (Lit.u8 29), (Lit.u8 17), (Lit.u8 4), (Lit.u8 62), (Lit.u8 47), (Lit.u8 59), (Lit.u8 36), (Lit.u8 45), (Lit.u8 43), (Lit.u8 51), (Lit.u8 22), (Lit.u8 53), (Lit.u8 39), (Lit.u8 33), (Lit.u8 30), (Lit.u8 24), (Lit.u8 18), (Lit.u8 12), (Lit.u8 5), (Lit.u8 63), (Lit.u8 55), (Lit.u8 48), (Lit.u8 27), (Lit.u8 60), (Lit.u8 41), (Lit.u8 37), (Lit.u8 16), (Lit.u8 46), (Lit.u8 35), (Lit.u8 44), (Lit.u8 21), (Lit.u8 52), (Lit.u8 32), (Lit.u8 23), (Lit.u8 11), (Lit.u8 54), (Lit.u8 26), (Lit.u8 40), (Lit.u8 15), (Lit.u8 34), (Lit.u8 20), (Lit.u8 31), (Lit.u8 10), (Lit.u8 25), (Lit.u8 14), (Lit.u8 19), (Lit.u8 9), (Lit.u8 13), (Lit.u8 8), (Lit.u8 7), (Lit.u8 6)] 0 (0, 65)),
 (.cells #[] 0 (1, 1)),
 (.cells #[] 0 (1, 1)),
 (.cells #[] 0 (1, 1)),
 (.cells #[] 0 (1, 1)),
 (.cells #[] 0 (1, 1)),
 (.cells #[] 0 (1, 1)),
 (.cells #[(sy .u64 0), (Lit.u64 18446744073709551615), (Lit.u32 0), (Lit.u64 18446744073709551615), (Lit.u32 0), (Lit.u64 18446744073709551615), (Lit.u32 0), (Lit.u64 18446744073709551615), (Lit.u32 0), (Lit.u64 18446744073709551615), (Lit.u32 0), (Lit.u64 18446744073709551615), (Lit.u32 0), (Lit.u64 18446744073709551615), (Lit.u32 0), (Lit.u64 18446744073709551615), (Lit.u32 0), (Lit.i64 1)] 148 (0, 0)),
 (.cells #[(Lit.u32 0), (Lit.u32 0), (Lit.u32 0), (Lit.u32 0), (Lit.u32 0)] 254 (0, 0)),
 (.cells #[(.pointer (some ⟨10, 0, none⟩))] 150 (3, 1)),
 (.cells #[(.slice (some ⟨11, 0, none⟩) 1 1)] 153 (0, 0)),
 (.cells #[(sy .u64 5), (Lit.u64 0), (sy .u32 6), (Lit.u32 0), (.bool false), (.bool false), (Lit.u32 10)] 157 (0, 0)),
 (.cells #[(.bool true), (.bool false), (syB 2), (sy .u32 3), (sy .u32 4), (sy .u64 1), (Lit.i64 0)] 159 (0, 0)),
 (.cells #[(Lit.u32 1), (Lit.u32 0), (Lit.u32 0), (Lit.u32 1), (.bool false)] 165 (0, 0)),
 (.cells #[(Lit.u32 0), (Lit.u32 0)] 169 (0, 0)),
 (.cells #[(.pointer (some ⟨9, 0, none⟩)), (.pointer (some ⟨12, 0, none⟩)), (.pointer (some ⟨14, 0, none⟩)), (.pointer (some ⟨13, 0, none⟩)), (.pointer (some ⟨15, 0, none⟩)), (.pointer (some ⟨16, 0, none⟩)), (.pointer (some ⟨19, 0, none⟩)), (Lit.i64 1), (Lit.i64 1), (Lit.u32 10), (.slice none 0 0)] 100 (0, 0)),
 (.map #[⟨(.agg #[(Lit.u32 33554432), (Lit.u32 49152)]), (.iface 77 (.pointer (some ⟨9, 0, none⟩))), 0⟩, ⟨(.agg #[(Lit.u32 268500992), (Lit.u32 256)]), (.iface 80 (.pointer (some ⟨12, 0, none⟩))), 1⟩, ⟨(.agg #[(Lit.u32 268566528), (Lit.u32 20)]), (.iface 48 (.pointer (some ⟨14, 0, none⟩))), 2⟩, ⟨(.agg #[(Lit.u32 268632064), (Lit.u32 16)]), (.iface 94 (.pointer (some ⟨15, 0, none⟩))), 3⟩, ⟨(.agg #[(Lit.u32 268697600), (Lit.u32 36)]), (.iface 83 (.pointer (some ⟨13, 0, none⟩))), 4⟩, ⟨(.agg #[(Lit.u32 268763136), (Lit.u32 12)]), (.iface 96 (.pointer (some ⟨16, 0, none⟩))), 5⟩] 6),
 (.cells #[(.map (some 18))] 182 (0, 0)),
 (.cells #[(sy .i64 7), (sy .u64 8), (Lit.i64 0), (.pointer (some ⟨17, 0, none⟩)), (.slice (some ⟨22, 0, none⟩) 1 1)] 104 (0, 0)),
 (.cells #[(.pointer (some ⟨20, 0, none⟩)), (sy .u32 3), (sy .u32 4), (.bool true)] 108 (0, 0)),
 (.cells #[(sy .u32 9)] 22 (3, 1))]
def lT1 : List Obj := [(.cells #[(Lit.u64 1), (Lit.u64 10), (Lit.u64 100), (Lit.u64 1000), (Lit.u64 10000), (Lit.u64 100000), (Lit.u64 1000000), (Lit.u64 10000000), (Lit.u64 100000000), (Lit.u64 1000000000), (Lit.u64 10000000000), (Lit.u64 100000000000), (Lit.u64 1000000000000), (Lit.u64 10000000000000), (Lit.u64 100000000000000), (Lit.u64 1000000000000000), (Lit.u64 10000000000000000), (Lit.u64 100000000000000000), (Lit.u64 1000000000000000000), (Lit.u64 10000000000000000000)] 0 (0, 21)),
 (.cells #[] 0 (1, 1)),
 (.cells #[(Lit.u8 0), (Lit.u8 1), (Lit.u8 56), (Lit.u8 2), (Lit.u8 57), (Lit.u8 49), (Lit.u8 28), (Lit.u8 3), (Lit.u8 61), (Lit.u8 58), (Lit.u8 42), (Lit.u8 50), (Lit.u8 38), (Lit.u8 29), (Lit.u8 17), (Lit.u8 4), (Lit.u8 62), (Lit.u8 47), (Lit.u8 59), (Lit.u8 36), (Lit.u8 45), (Lit.u8 43), (Lit.u8 51), (Lit.u8 22), (Lit.u8 53), (Lit.u8 39), (Lit.u8 33), (Lit.u8 30), (Lit.u8 24), (Lit.u8 18), (Lit.u8 12), (Lit.u8 5), (Lit.u8 63), (Lit.u8 55), (Lit.u8 48), (Lit.u8 27), (Lit.u8 60), (Lit.u8 41), (Lit.u8 37), (Lit.u8 16), (Lit.u8 46), (Lit.u8 35), (Lit.u8 44), (Lit.u8 21), (Lit.u8 52), (Lit.u8 32), (Lit.u8 23), (Lit.u8 11), (Lit.u8 54), (Lit.u8 26), (Lit.u8 40), (Lit.u8 15), (Lit.u8 34), (Lit.u8 20), (Lit.u8 31), (Lit.u8 10), (Lit.u8 25), (Lit.u8 14), (Lit.u8 19), (Lit.u8 9), (Lit.u8 13), (Lit.u8 8), (Lit.u8 7), (Lit.u8 6)] 0 (0, 65)),
 (.cells #[] 0 (1, 1)),
 (.cells #[] 0 (1, 1)),
 (.cells #[] 0 (1, 1)),
 (.cells #[] 0 (1, 1)),
 (.cells #[] 0 (1, 1)),
 (.cells #[] 0 (1, 1)),
 (.cells #[(sy .u64 0), (Lit.u64 18446744073709551615), (Lit.u32 0), (Lit.u64 18446744073709551615), (Lit.u32 0), (Lit.u64 18446744073709551615), (Lit.u32 0), (Lit.u64 18446744073709551615), (Lit.u32 0), (Lit.u64 18446744073709551615), (Lit.u32 0), (Lit.u64 18446744073709551615), (Lit.u32 0), (Lit.u64 18446744073709551615), (Lit.u32 0), (Lit.u64 18446744073709551615), (Lit.u32 0), (Lit.i64 1)] 148 (0, 0)),
 (.cells #[(Lit.u32 0), (Lit.u32 0), (Lit.u32 0), (Lit.u32 0), (Lit.u32 0)] 254 (0, 0)),
 (.cells #[(.pointer (some ⟨10, 0, none⟩))] 150 (3, 1)),
 (.cells #[(.slice (some ⟨11, 0, none⟩) 1 1)] 153 (0, 0)),
 (.cells #[(sy .u64 5), (Lit.u64 0), (sy .u32 6), (Lit.u32 0), (.bool false), (.bool false), (Lit.u32 10)] 157 (0, 0)),
 (.cells #[(.bool true), (.bool true), (syB 2), (sy .u32 3), (sy .u32 4), (sy .u64 1), (Lit.i64 0)] 159 (0, 0)),
 (.cells #[(Lit.u32 1), (Lit.u32 0), (Lit.u32 0), (Lit.u32 1), (.bool false)] 165 (0, 0)),
 (.cells #[(Lit.u32 0), (Lit.u32 0)] 169 (0, 0)),
 (.cells #[(.pointer (some ⟨9, 0, none⟩)), (.pointer (some ⟨12, 0, none⟩)), (.pointer (some ⟨14, 0, none⟩)), (.pointer (some ⟨13, 0, none⟩)), (.pointer (some ⟨15, 0, none⟩)), (.pointer (some ⟨16, 0, none⟩)), (.pointer (some ⟨19, 0, none⟩)), (Lit.i64 1), (Lit.i64 1), (Lit.u32 10), (.slice none 0 0)] 100 (0, 0)),
 (.map #[⟨(.agg #[(Lit.u32 33554432), (Lit.u32 49152)]), (.iface 77 (.pointer (some ⟨9, 0, none⟩))), 0⟩, ⟨(.agg #[(Lit.u32 268500992), (Lit.u32 256)]), (.iface 80 (.pointer (some ⟨12, 0, none⟩))), 1⟩, ⟨(.agg #[(Lit.u32 268566528), (Lit.u32 20)]), (.iface 48 (.pointer (some ⟨14, 0, none⟩))), 2⟩, ⟨(.agg #[(Lit.u32 268632064), (Lit.u32 16)]), (.iface 94 (.pointer (some ⟨15, 0, none⟩))), 3⟩, ⟨(.agg #[(Lit.u32 268697600), (Lit.u32 36)]), (.iface 83 (.pointer (some ⟨13, 0, none⟩))), 4⟩, ⟨(.agg #[(Lit.u32 268763136), (Lit.u32 12)]), (.iface 96 (.pointer (some ⟨16, 0, none⟩))), 5⟩] 6),
 (.cells #[(.map (some 18))] 182 (0, 0)),
 (.cells #[(sy .i64 7), (sy .u64 8), (Lit.i64 0), (.pointer (some ⟨17, 0, none⟩)), (.slice (some ⟨22, 0, none⟩) 1 1)] 104 (0, 0)),
 (.cells #[(.pointer (some ⟨20, 0, none⟩)), (sy .u32 3), (sy .u32 4), (.bool true)] 108 (0, 0)),
 (.cells #[(sy .u32 9)] 22 (3, 1))]
def lU0 : List Obj := [(.cells #[(Lit.u64 1), (Lit.u64 10), (Lit.u64 100), (Lit.u64 1000), (Lit.u64 10000), (Lit.u64 100000), (Lit.u64 1000000), (Lit.u64 10000000), (Lit.u64 100000000), (Lit.u64 1000000000), (Lit.u64 10000000000), (Lit.u64 100000000000), (Lit.u64 1000000000000), (Lit.u64 10000000000000), (Lit.u64 100000000000000), (Lit.u64 1000000000000000), (Lit.u64 10000000000000000), (Lit.u64 100000000000000000), (Lit.u64 1000000000000000000), (Lit.u64 10000000000000000000)] 0 (0, 21)),
 (.cells #[] 0 (1, 1)),
 (.cells #[(Lit.u8 0), (Lit.u8 1), (Lit.u8 56), (Lit.u8 2), (Lit.u8 57), (Lit.u8 49), (Lit.u8 28), (Lit.u8 3), (Lit.u8 61), (Lit.u8 58), (Lit.u8 42), (Lit.u8 50), (Lit.u8 38), (Lit.u8 29), (Lit.u8 17), (Lit.u8 4), (Lit.u8 62), (Lit.u8 47), (Lit.u8 59), (Lit.u8 36), (Lit.u8 45), (Lit.u8 43), (Lit.u8 51), (Lit.u8 22), (Lit.u8 53), (Lit.u8 39), (Lit.u8 33), (Lit.u8 30), (Lit.u8 24), (Lit.u8 18), (Lit.u8 12), (Lit.u8 5), (Lit.u8 63), (Lit.u8 55), (Lit.u8 48), (Lit.u8 27), (Lit.u8 60), (Lit.u8 41), (Lit.u8 37), (Lit.u8 16), (Lit.u8 46), (Lit.u8 35), (Lit.u8 44), (Lit.u8 21), (Lit.u8 52), (Lit.u8 32), (Lit.u8 23), (Lit.u8 11), (Lit.u8 54), (Lit.u8 26), (Lit.u8 40), (Lit.u8 15), (Lit.u8 34), (Lit.u8 20), (Lit.u8 31), (Lit.u8 10), (Lit.u8 25), (Lit.u8 14), (Lit.u8 19), (Lit.u8 9), (Lit.u8 13), (Lit.u8 8), (Lit.u8 7), (Lit.u8 6)] 0 (0, 65)),
 (.cells #[] 0 (1, 1)),
 (.cells #[] 0 (1, 1)),
 (.cells #[] 0 (1, 1)),
 (.cells #[] 0 (1, 1)),
 (.cells #[] 0 (1, 1)),
 (.cells #[] 0 (1, 1)),
 (.cells #[(sy .u64 0), (Lit.u64 18446744073709551615), (Lit.u32 0), (Lit.u64 18446744073709551615), (Lit.u32 0), (Lit.u64 18446744073709551615), (Lit.u32 0), (Lit.u64 18446744073709551615), (Lit.u32 0), (Lit.u64 18446744073709551615), (Lit.u32 0), (Lit.u64 18446744073709551615), (Lit.u32 0), (Lit.u64 18446744073709551615), (Lit.u32 0), (Lit.u64 18446744073709551615), (Lit.u32 0), (Lit.i64 1)] 148 (0, 0)),
 (.cells #[(Lit.u32 0), (Lit.u32 0), (Lit.u32 0), (Lit.u32 0), (Lit.u32 0)] 254 (0, 0)),
 (.cells #[(.pointer (some ⟨10, 0, none⟩))] 150 (3, 1)),
 (.cells #[(.slice (some ⟨11, 0, none⟩) 1 1)] 153 (0, 0)),
 (.cells #[(sy .u64 5), (Lit.u64 0), (sy .u32 6), (Lit.u32 0), (.bool false), (.bool false), (Lit.u32 10)] 157 (0, 0)),
 (.cells #[(.bool true), (.bool false), (syB 2), (sy .u32 3), (sy .u32 4), (sy .u64 1), (Lit.i64 0)] 159 (0, 0)),
 (.cells #[(Lit.u32 1), (Lit.u32 0), (Lit.u32 0), (Lit.u32 1), (.bool false)] 165 (0, 0)),
 (.cells #[(Lit.u32 0), (Lit.u32 0)] 169 (0, 0)),
 (.cells #[(.pointer (some ⟨9, 0, none⟩)), (.pointer (some ⟨12, 0, none⟩)), (.pointer (some ⟨14, 0, none⟩)), (.pointer (some ⟨13, 0, none⟩)), (.pointer (some ⟨15, 0, none⟩)), (.pointer (some ⟨16, 0, none⟩)), (.pointer (some ⟨19, 0, none⟩)), (Lit.i64 1), (Lit.i64 1), (Lit.u32 10), (.slice none 0 0)] 100 (0, 0)),
 (.map #[⟨(.agg #[(Lit.u32 33554432), (Lit.u32 49152)]), (.iface 77 (.pointer (some ⟨9, 0, none⟩))), 0⟩, ⟨(.agg #[(Lit.u32 268500992), (Lit.u32 256)]), (.iface 80 (.pointer (some ⟨12, 0, none⟩))), 1⟩, ⟨(.agg #[(Lit.u32 268566528), (Lit.u32 20)]), (.iface 48 (.pointer (some ⟨14, 0, none⟩))), 2⟩, ⟨(.agg #[(Lit.u32 268632064), (Lit.u32 16)]), (.iface 94 (.pointer (some ⟨15, 0, none⟩))), 3⟩, ⟨(.agg #[(Lit.u32 268697600), (Lit.u32 36)]), (.iface 83 (.pointer (some ⟨13, 0, none⟩))), 4⟩, ⟨(.agg #[(Lit.u32 268763136), (Lit.u32 12)]), (.iface 96 (.pointer (some ⟨16, 0, none⟩))), 5⟩] 6),
 (.cells #[(.map (some 18))] 182 (0, 0)),
 (.cells #[(sy .i64 7), (sy .u64 8), (Lit.i64 0), (.pointer (some ⟨17, 0, none⟩)), (.slice (some ⟨22, 0, none⟩) 1 1)] 104 (0, 0)),
 (.cells #[(.pointer (some ⟨20, 0, none⟩)), (sy .u32 3), (sy .u32 4), (.bool true)] 108 (0, 0)),
 (.cells #[(sy .u32 9)] 22 (3, 1)),
 (.cells #[(sy .i64 21), (sy .u64 22), (sy .u64 23), (sy .i64 24)] 39 (0, 0))]
def lU1 : List Obj := [(.cells #[(Lit.u64 1), (Lit.u64 10), (Lit.u64 100), (Lit.u64 1000), (Lit.u64 10000), (Lit.u64 100000), (Lit.u64 1000000), (Lit.u64 10000000), (Lit.u64 100000000), (Lit.u64 1000000000), (Lit.u64 10000000000), (Lit.u64 100000000000), (Lit.u64 1000000000000), (Lit.u64 10000000000000), (Lit.u64 100000000000000), (Lit.u64 1000000000000000), (Lit.u64 10000000000000000), (Lit.u64 100000000000000000), (Lit.u64 1000000000000000000), (Lit.u64 10000000000000000000)] 0 (0, 21)),
 (.cells #[] 0 (1, 1)),
 (.cells #[(Lit.u8 0), (Lit.u8 1), (Lit.u8 56), (Lit.u8 2), (Lit.u8 57), (Lit.u8 49), (Lit.u8 28), (Lit.u8 3), (Lit.u8 61), (Lit.u8 58), (Lit.u8 42), (Lit.u8 50), (Lit.u8 38), (Lit.u8 29), (Lit.u8 17), (Lit.u8 4), (Lit.u8 62), (Lit.u8 47), (Lit.u8 59), (Lit.u8 36), (Lit.u8 45), (Lit.u8 43), (Lit.u8 51), (Lit.u8 22), (Lit.u8 53), (Lit.u8 39), (Lit.u8 33), (Lit.u8 30), (Lit.u8 24), (Lit.u8 18), (Lit.u8 12), (Lit.u8 5), (Lit.u8 63), (Lit.u8 55), (Lit.u8 48), (Lit.u8 27), (Lit.u8 60), (Lit.u8 41), (Lit.u8 37), (Lit.u8 16), (Lit.u8 46), (Lit.u8 35), (Lit.u8 44), (Lit.u8 21), (Lit.u8 52), (Lit.u8 32), (Lit.u8 23), (Lit.u8 11), (Lit.u8 54), (Lit.u8 26), (Lit.u8 40), (Lit.u8 15), (Lit.u8 34), (Lit.u8 20), (Lit.u8 31), (Lit.u8 10), (Lit.u8 25), (Lit.u8 14), (Lit.u8 19), (Lit.u8 9), (Lit.u8 13), (Lit.u8 8), (Lit.u8 7), (Lit.u8 6)] 0 (0, 65)),
 (.cells #[] 0 (1, 1)),
 (.cells #[] 0 (1, 1)),
 (.cells #[] 0 (1, 1)),
 (.cells #[] 0 (1, 1)),
 (.cells #[] 0 (1, 1)),
 (.cells #[] 0 (1, 1)),
 (.cells #[(sy .u64 0), (Lit.u64 18446744073709551615), (Lit.u32 0), (Lit.u64 18446744073709551615), (Lit.u32 0), (Lit.u64 18446744073709551615), (Lit.u32 0), (Lit.u64 18446744073709551615), (Lit.u32 0), (Lit.u64 18446744073709551615), (Lit.u32 0), (Lit.u64 18446744073709551615), (Lit.u32 0), (Lit.u64 18446744073709551615), (Lit.u32 0), (Lit.u64 18446744073709551615), (Lit.u32 0), (Lit.i64 1)] 148 (0, 0)),
 (.cells #[(Lit.u32 0), (Lit.u32 0), (Lit.u32 0), (Lit.u32 0), (Lit.u32 0)] 254 (0, 0)),
 (.cells #[(.pointer (some ⟨10, 0, none⟩))] 150 (3, 1)),
 (.cells #[(.slice (some ⟨11, 0, none⟩) 1 1)] 153 (0, 0)),
 (.cells #[(sy .u64 5), (Lit.u64 0), (sy .u32 6), (Lit.u32 0), (.bool false), (.bool false), (Lit.u32 10)] 157 (0, 0)),
 (.cells #[(.bool true), (.bool true), (syB 2), (sy .u32 3), (sy .u32 4), (sy .u64 1), (Lit.i64 0)] 159 (0, 0)),
 (.cells #[(Lit.u32 1), (Lit.u32 0), (Lit.u32 0), (Lit.u32 1), (.bool false)] 165 (0, 0)),
 (.cells #[(Lit.u32 0), (Lit.u32 0)] 169 (0, 0)),
 (.cells #[(.pointer (some ⟨9, 0, none⟩)), (.pointer (some ⟨12, 0, none⟩)), (.pointer (some ⟨14, 0, none⟩)), (.pointer (some ⟨13, 0, none⟩)), (.pointer (some ⟨15, 0, none⟩)), (.pointer (some ⟨16, 0, none⟩)), (.pointer (some ⟨19, 0, none⟩)), (Lit.i64 1), (Lit.i64 1), (Lit.u32 10), (.slice none 0 0)] 100 (0, 0)),
 (.map #[⟨(.agg #[(Lit.u32 33554432), (Lit.u32 49152)]), (.iface 77 (.pointer (some ⟨9, 0, none⟩))), 0⟩, ⟨(.agg #[(Lit.u32 268500992), (Lit.u32 256)]), (.iface 80 (.pointer (some ⟨12, 0, none⟩))), 1⟩, ⟨(.agg #[(Lit.u32 268566528), (Lit.u32 20)]), (.iface 48 (.pointer (some ⟨14, 0, none⟩))), 2⟩, ⟨(.agg #[(Lit.u32 268632064), (Lit.u32 16)]), (.iface 94 (.pointer (some ⟨15, 0, none⟩))), 3⟩, ⟨(.agg #[(Lit.u32 268697600), (Lit.u32 36)]), (.iface 83 (.pointer (some ⟨13, 0, none⟩))), 4⟩, ⟨(.agg #[(Lit.u32 268763136), (Lit.u32 12)]), (.iface 96 (.pointer (some ⟨16, 0, none⟩))), 5⟩] 6),
 (.cells #[(.map (some 18))] 182 (0, 0)),
 (.cells #[(sy .i64 7), (sy .u64 8), (Lit.i64 0), (.pointer (some ⟨17, 0, none⟩)), (.slice (some ⟨22, 0, none⟩) 1 1)] 104 (0, 0)),
 (.cells #[(.pointer (some ⟨20, 0, none⟩)), (sy .u32 3), (sy .u32 4), (.bool true)] 108 (0, 0)),
 (.cells #[(sy .u32 9)] 22 (3, 1)),
 (.cells #[(sy .i64 21), (sy .u64 22), (sy .u64 23), (sy .i64 24)] 39 (0, 0))]
end Go.Ev.Lit
namespace Go.Ev
theorem Da.andF {ρ : Nat → Option Value} {x y : Value} {A B : Prop} [Decidable A] [Decidable B] (hx : Da ρ x (.bool (decide A))) (hy : Da ρ y (.bool (decide B))) (h : ¬ (A ∧ B)) : Da ρ (an x y) (.bool false) :=
  (Da.and hx hy).to (by rw [← Bool.decide_and, decide_eq_false h])
theorem Da.andT {ρ : Nat → Option Value} {x y : Value} {A B : Prop} [Decidable A] [Decidable B] (hx : Da ρ x (.bool (decide A))) (hy : Da ρ y (.bool (decide B))) (h : A ∧ B) : Da ρ (an x y) (.bool true) :=
  (Da.and hx hy).to (by rw [← Bool.decide_and, decide_eq_true h])
theorem Da.eqd {ρ : Nat → Option Value} {k : IntKind} {x y : Value} {a b : Nat} (hx : Da ρ x (.int k a)) (hy : Da ρ y (.int k b)) : Da ρ (bn 11 (.bool false) x y) (.bool (decide (a = b))) := Da.eql hx hy (by rw [decide_eq_true_eq])
/-- A number of any sign against a small one. -/
theorem Da.eqi {ρ : Nat → Option Value} {k : IntKind} {x y : Value} {a b : Int} {q : Bool} (hx : Da ρ x (.int k a)) (hy : Da ρ y (.int k b)) (hq : (a = b) ↔ q = true) : Da ρ (bn 11 (.bool false) x y) (.bool q) := by
  refine Da.bin hx hy ?_ (by simp [sameTy])
  show (if k = k ∨ _ then _ else _) = _
  rw [if_pos (.inl rfl)]
  show some (Value.bool (a == b)) = _
  congr 2
  rw [Bool.eq_iff_iff]; simp only [beq_iff_eq]; rw [← hq]
end Go.Ev
namespace Go.Proofs.YtkndlfdpmpdihaaGreatDoor
open Go.RowKit Go.Ev
set_option linter.unusedVariables false
set_option linter.unusedSimpArgs false
/-- The board: its time; the watchdog (ticks since, window, armed, locked); the clock; the port; the model's last feed; the round. -/
structure DT where
  time : Nat
  since : Nat
  shut : Nat
  all : Nat
  sec : Nat
  rest : Nat
  made : Nat
  spent : Nat
  gap : Nat
  last : Nat
  idx : Nat
  armed : Bool
  locked : Bool
def ρT (s : DT) : Nat → Option Value
  | 0 => some (.int .u64 s.time)
  | 1 => some (.int .u64 s.since)
  | 2 => some (.bool s.armed)
  | 3 => some (.int .u32 s.shut)
  | 4 => some (.int .u32 s.all)
  | 5 => some (.int .u64 s.sec)
  | 6 => some (.int .u32 s.rest)
  | 7 => some (.int .i64 s.made)
  | 8 => some (.int .u64 s.spent)
  | 9 => some (.int .u32 s.gap)
  | 15 => some (.int .u64 s.last)
  | 16 => some (.int .i64 s.idx)
  | 17 => some (.int .u64 s.time)
  | _ => none
/-- An act. -/
structure AC where
  kind : Int
  d : Nat
  p : Nat
  of : Int
def ρU (s : DT) (x : AC) : Nat → Option Value
  | 21 => some (.int .i64 x.kind)
  | 22 => some (.int .u64 x.d)
  | 23 => some (.int .u64 x.p)
  | 24 => some (.int .i64 x.of)
  | i => ρT s i
theorem ρU_T (s : DT) (x : AC) : ∀ i v, ρT s i = some v → ρU s x i = some v := by
  intro i v h
  unfold ρU
  split <;> first | (cases h; done) | exact h
/-- Bounds, k rounds behind the start. -/
structure DT.ok (s : DT) (k : Nat) : Prop where
  time : s.time ≤ 1000 * k
  since : s.since < s.all
  shut : s.shut < s.all
  all : s.all ≤ 1000
  sec : s.sec ≤ 1000 * k
  rest : s.rest < 10
  made : s.made ≤ 1000 + 10 * k
  spent : s.spent ≤ 1000 * k
  gap : s.gap < 10
  clock : s.time = 10 * s.sec + s.rest
  model : s.time = s.last + s.since
  idx : s.idx ≤ k
def lTof (lk : Bool) : List Obj := if lk then Lit.lT1 else Lit.lT0
def lUof (lk : Bool) : List Obj := if lk then Lit.lU1 else Lit.lU0
def P_ (k : Nat) : Value := .pointer (some ⟨k, 0, none⟩)
/-- The temporaries at the head of the loop. -/
def envT : List (Nat × Value) := [(0, sy .u32 3), (1, sy .u32 4), (3, sy .u32 9), (11, P_ 17), (13, P_ 20), (15, P_ 21), (16, sy .u64 17), (17, sy .u64 15), (18, syB 2), (19, .int .u64 (.ofNat 0)), (20, .int .i64 (.ofNat 0)), (21, sy .i64 16)]
def envU : List (Nat × Value) := envT ++ [(22, P_ 23)]
def piT : List Nat := [0, 1, 2, 3, 4, 5, 6, 7, 8, 9, 10, 11, 12, 13, 14, 15, 16, 17, 18, 19, 20, 21, 22]
def envR : List (Nat × Value) := [(10, .bool true)]
def piR : List Nat := [0, 1, 2, 3, 4, 5, 6, 7, 8]
theorem lT_len (lk : Bool) : (lTof lk).length ≤ 65536 := by cases lk <;> decide
theorem lU_len (lk : Bool) : (lUof lk).length ≤ 65536 := by cases lk <;> decide
end Go.Proofs.YtkndlfdpmpdihaaGreatDoor
namespace Go.Proofs.YtkndlfdpmpdihaaGreatDoor
open Go.RowKit Go.Ev
set_option linter.unusedVariables false
set_option linter.unusedSimpArgs false
set_option maxRecDepth 1000000
section
variable {G G' : Gl} {l l' : List Obj} {m : Nat} {e e' : List (Nat × Value)} {A : Value} {rA : Option Nat} {ft : Nat → Prop} {a : Act} {w : World} {pi : List Nat} {exps : List Value}
theorem runL_sound {G : Gl} (hG : G.n = 8) {Q : Exit → Act → World → Prop} {rest : Code} : ∀ (cs : List Code) {e1 e2 : Env} {T1 T2 : TW}, runL G cs e1 T1 = some (e2, T2) → ∀ {B : FM} {w0 : World} {τ : Rel} {a' : Act} {wr : World}, EnvR τ e1 a' → WT G B w0 τ T1 wr →
    (∀ τ' a2' wr', τ.le τ' → EnvR τ' e2 a2' → WT G B w0 τ' T2 wr' → rest.wp Tryz.prog Q a2' wr') → (cs.foldr Code.seq rest).wp Tryz.prog Q a' wr
  | [], e1, e2, T1, T2, h, B, w0, τ, a', wr, ha, hw, hQ => by
    cases h
    exact hQ τ a' wr (Rel.le.refl _) ha hw
  | c :: cs, e1, e2, T1, T2, h, B, w0, τ, a', wr, ha, hw, hQ => by
    unfold runL at h
    split at h <;> first | (cases h; done) | skip
    rename_i e3 T3 hc
    refine wp_seq ?_
    have hin := codeC_ok G hG c hc (C := ⟨B, 0, fun _ => default⟩) (τ0 := τ) (w0 := w0) (r := none) (B := B) (τ := τ) (a' := a') (wr := wr) (Rel.le.refl _)
      ⟨ha.tmps, ha.size, rfl⟩ ⟨rfl, ha.d', rfl⟩ hw (Q := Exit.then ((cs.foldr Code.seq rest).wp Tryz.prog Q) Q) ?_
    · exact wpIn_wide.1 hin
    · intro τ' B' a2' wr' hle henv hfr hw2
      obtain ⟨_, hdf, hB⟩ := hfr
      subst hB
      exact runL_sound hG cs h ⟨henv.tmps, henv.size, hdf⟩ hw2 (fun τ'' a3 w3 hle2 he3 hw3 => hQ τ'' a3 w3 (hle.trans hle2) he3 hw3)
/-- Pieces of code, one behind the other. -/
theorem Sc.goL {cs : List Code} {rest : Code} {ρ ρ1 ρ' : Nat → Option Value} {dl : List (Value × Bool)} {Q : Exit → Act → World → Prop} (h : Sc (pl ρ) l m e A rA ft a w) (hw : ∀ i v, ρ i = some v → ρ1 i = some v) (hdl : DL ρ1 dl) (hex : EX ρ1 ρ' 0 exps)
    (hA : AOk (symS ρ1) (symS ρ') A) (hp : pi[8]? = some 8) (hl : l'.length ≤ 65536) (hk : askC (runN (mkG 8 ρ1 dl hdl) cs) .normal m ((4, A) :: e) l pi exps e' l' = some A)
    (hQ : ∀ a' w', Sc (pl ρ') l' m e' A rA (grow ft w w') a' w' → Kp (fr ft w) w w' → rest.wp Tryz.prog Q a' w') : (cs.foldr Code.seq rest).wp Tryz.prog Q a w := by
  obtain ⟨τ, hst, henv, hra⟩ := h
  have h1 : St (mkG 8 ρ1 dl hdl) l ⟨τ.r, symS ρ1⟩ ft w := hst.wider (G := pl ρ) (G' := mkG 8 ρ1 dl hdl) rfl (fun e v x => symS_wider hw x)
  have hle : τ.le ⟨τ.r, symS ρ1⟩ := ⟨fun _ _ _ x => x, fun e v x => by
    have hs : τ.s = symS ρ := by obtain ⟨H, _, hw⟩ := hst.wt; exact hw.sy
    rw [hs] at x; exact symS_wider hw x⟩
  have h8 : 8 ≤ w.heap.size := WT.size (G := pl ρ) (by show 0 < 8; omega) hst.wt
  have hgl : ∀ r, r < 8 → ¬ ft r := hst.gl
  unfold askC at hk
  rw [fillR_fillT, fillR_fillT] at hk
  split at hk <;> first | (cases hk; done) | skip
  rename_i ex1 n1 e1 T1 hrun
  split at hk <;> first | (cases hk; done) | skip
  rename_i hcc
  simp only [Bool.and_eq_true] at hcc
  unfold runN at hrun
  split at hrun <;> first | (cases hrun; done) | skip
  rename_i e2 T2 hr
  cases hrun
  refine runL_sound (G := mkG 8 ρ1 dl hdl) rfl cs hr (henv.mono hle) h1.wt ?_
  intro τ' a2' wr' hle2 henv2 hw2
  have hkp : Kp (fr ft w) w wr' := by obtain ⟨H, _, hw2⟩ := hw2; exact hw2.kp
  exact hQ a2' wr' (ask_end (G := mkG 8 ρ1 dl hdl) (G' := pl ρ') (l := l) (τ1 := τ') (e1 := e1) (T1 := T1) (n1 := n1) henv2.size rfl rfl hex.ok hl hA hp hcc.2.2.1 hcc.2.2.2 hk ⟨henv2.tmps, henv2.size, henv2.d'⟩ hw2 (fun _ => trivial) h8 hgl
    (fun r hr => hle2.r _ _ _ (hra r hr)) (Nat.eq_of_beq_eq_true hcc.1)) hkp
end
/-- What t4 is, where no small value tells it. -/
def ρX (ρ : Nat → Option Value) (v : Option Value) : Nat → Option Value
  | 25 => v
  | i => ρ i
theorem ρX_none {ρ : Nat → Option Value} (h : ρ 25 = none) : ρX ρ none = ρ := by
  funext i
  unfold ρX
  split
  · exact h.symm
  · rfl
def tOk (A : Value) : Prop := sliceA A ∨ A = slS
theorem slS_den {ρ : Nat → Option Value} {u : Value} (h : symS ρ slS u) : ρ 25 = some u := by
  obtain ⟨n, hn⟩ := h
  cases n with
  | zero => unfold den at hn; cases hn
  | succ n => unfold slS den at hn; exact hn
theorem den_slS {ρ : Nat → Option Value} {u : Value} (h : ρ 25 = some u) : symS ρ slS u := ⟨1, by unfold slS den; exact h⟩
theorem tOk_X {A : Value} (h : tOk A) {ρ ρ' : Nat → Option Value} {v : Option Value} : AOk (symS (ρX ρ v)) (symS (ρX ρ' v)) A := by
  rcases h with h | rfl
  · exact .inl h
  · refine .inr ⟨rfl, fun u hu => den_slS ?_⟩
    have h2 : ρX ρ v 25 = some u := slS_den hu
    exact h2
/-- A new block of the great world. -/
theorem St.add {G : Gl} {l : List Obj} {τ : Rel} {ft : Nat → Prop} {w w' : World} {o o' : Obj} (hl : l.length < 65536) (ho : noOld G.n l = true) (h : St G l τ ft w) (hsz : w.heap.size < w'.heap.size) (hk : ∀ r, r < w.heap.size → w'.heap[r]? = w.heap[r]?)
    (hn : w'.heap[w.heap.size]? = some o') (hor : OR τ none o o') : ∃ τ' : Rel, τ.le τ' ∧ τ'.r l.length w.heap.size none ∧ St G (l ++ [o]) τ' (fun r => ft r ∨ r = w.heap.size) w' := by
  have h1 := h.keep (Nat.le_of_lt hl) ho (w' := w') (Nat.le_of_lt hsz) (fun r hr _ => hk r hr)
  obtain ⟨H0, hR0, hw0⟩ := h.wt
  obtain ⟨H, hR, hw⟩ := h1.wt
  have hw2 : WT G (fr (fun r => ft r ∨ r = w.heap.size) w') w' τ (fillT l) w' := WT.reframe ⟨H, hR, hw⟩ (fun r hr hlt => .inl (fr_none hr hlt))
  obtain ⟨H2, hR2, hw2⟩ := hw2
  have hH2 : H2.size = l.length := by rw [hR2.size, ← (fillT_rep (Nat.le_of_lt hl)).size]; simp
  obtain ⟨τ', hle, hτ, hw3⟩ := hw2.addAt (g := w.heap.size) (i := none) (o := o) (o' := o') hn (fr_at (.inr rfl)) (fun k i ht => by
    have := (hw0.dom k _ i ht).2.1
    omega) hor
  rw [hH2] at hτ
  refine ⟨τ', hle, hτ, ⟨H2.push o, ?_, hw3⟩, fun r hr => ?_⟩
  · have e1 : H2 = ⟨l⟩ := by
      apply Array.ext
      · simpa using hH2
      · intro i h1 h2
        have a := hR2.get i (by omega)
        have b := (fillT_rep (Nat.le_of_lt hl)).get i (by simp at h2; omega)
        rw [a] at b
        rw [Array.getElem?_eq_getElem h1, Array.getElem?_eq_getElem h2] at b
        exact Option.some.inj b
    have := fillT_rep (l := l ++ [o]) (by simp; omega)
    rw [e1]
    simpa using this
  · rintro (h2 | rfl)
    · exact h.gl r hr h2
    · have := WT.size (by omega) h.wt
      omega
end Go.Proofs.YtkndlfdpmpdihaaGreatDoor
namespace Go.Proofs.YtkndlfdpmpdihaaGreatDoor
open Go.RowKit Go.Ev
set_option linter.unusedVariables false
set_option linter.unusedSimpArgs false
set_option maxRecDepth 1000000
theorem row_of (tm : Array Value) (n : Nat) (h : tm.size = n) : tm = ⟨(List.range n).map fun t => tm.getD t undef⟩ := by
  apply Array.ext
  · simp [h]
  · intro i h1 h2
    simp at h2
    simp [h1]
/-- The temporaries of TopDog that outlive a round. -/
def keepS : List Nat := [0, 1, 3, 4, 11, 13, 15, 16, 17, 18, 19, 20, 21]
theorem head_go {g : Nat → Value} {w : World} {p : Option Addr} {l c i : Nat} {Q : Exit → Act → World → Prop} (h4 : g 4 = .slice p l c) (h21 : g 21 = .int .i64 ((i : Nat) : Int)) 
    (hQ1 : i < l → i < 40 → ∀ a' : Act, a'.tmps.size = 277 → a'.defers = [] → (∀ t ∈ keepS, a'.tmps.getD t undef = g t) → Q .normal a' w) (hQ2 : ∀ a' : Act, a'.tmps.size = 277 → a'.defers = [] → (∀ t ∈ keepS, a'.tmps.getD t undef = g t) → Q (.exit 0) a' w) : head3.wp Tryz.prog Q ⟨⟨(List.range 277).map g⟩, []⟩ w := by
  have hh : head3 = head3 := rfl
  conv at hh => rhs; unfold head3 round3 loop0 s10 s9 s8 s7 s6 s5 s4 body3; simp only [Tryz.f3, c1, c2, cb]
  rw [hh]
  clear hh
  simp only [List.range, List.range.loop, List.map]
  have e4 := Lib.hid h4
  have e21 := Lib.hid h21
  rw [h4, h21]
  clear h4 h21
  go_wp2
  all_goals first
    | (refine hQ1 (by omega) (by omega) _ rfl rfl ?_
       intro t ht
       simp only [keepS, List.mem_cons, List.not_mem_nil, or_false] at ht
       rcases ht with rfl | rfl | rfl | rfl | rfl | rfl | rfl | rfl | rfl | rfl | rfl | rfl | rfl <;> first | rfl | exact e4.out.symm | exact e21.out.symm)
    | (refine hQ2 _ rfl rfl ?_
       intro t ht
       simp only [keepS, List.mem_cons, List.not_mem_nil, or_false] at ht
       rcases ht with rfl | rfl | rfl | rfl | rfl | rfl | rfl | rfl | rfl | rfl | rfl | rfl | rfl <;> first | rfl | exact e4.out.symm | exact e21.out.symm)
/-- An act, as it lies in memory. -/
def ActAt (w : World) (sb o : Nat) (x : AC) : Prop :=
  w.cell? ⟨sb, o, none⟩ = some (.int .i64 x.kind) ∧ w.cell? ⟨sb, o + 1, none⟩ = some (.int .u64 x.d) ∧ w.cell? ⟨sb, o + 2, none⟩ = some (.int .u64 x.p) ∧ w.cell? ⟨sb, o + 3, none⟩ = some (.int .i64 x.of)
/-- A list of acts, as it lies in memory. -/
def Acts (w : World) (A : Option Addr) (len : Nat) : Prop :=
  ∀ i, i < len → ∃ (sb so : Nat) (x : AC), A = some ⟨sb, so, none⟩ ∧ ActAt w sb (so + i * 4) x
theorem ActAt.lt {w : World} {sb o : Nat} {x : AC} (h : ActAt w sb o x) : sb < w.heap.size := World.block_lt_of_cell? (w := w) (a := ⟨sb, o, none⟩) h.1
theorem ActAt.below {w w' : World} {sb o n : Nat} {x : AC} (h : ActAt w sb o x) (hb : Below n w w') (hn : sb < n) : ActAt w' sb o x := by
  obtain ⟨h1, h2, h3, h4⟩ := h
  exact ⟨(hb.cell (p := ⟨sb, o, none⟩) hn).trans h1, (hb.cell (p := ⟨sb, o + 1, none⟩) hn).trans h2, (hb.cell (p := ⟨sb, o + 2, none⟩) hn).trans h3, (hb.cell (p := ⟨sb, o + 3, none⟩) hn).trans h4⟩
theorem alloc_size (w : World) (o : Obj) : (w.alloc o).heap.size = w.heap.size + 1 := Array.size_push ..
theorem alloc_at (w : World) (o : Obj) : (w.alloc o).heap[w.heap.size]? = some o := Array.getElem?_push_size ..
theorem r14_go {g : Nat → Value} {w : World} {sb so l c i : Nat} {x : AC} {Q : Exit → Act → World → Prop} (h4 : g 4 = .slice (some ⟨sb, so, none⟩) l c) (h21 : g 21 = .int .i64 ((i : Nat) : Int)) (hi : i < l) (hx : ActAt w sb (so + i * 4) x)
    (hQ : ∀ (a' : Act) (w' : World), a'.tmps.size = 277 → a'.defers = [] → (∀ t ∈ keepS, a'.tmps.getD t undef = g t) → a'.tmps.getD 22 undef = .pointer (some ⟨w.heap.size, 0, none⟩) → w'.heap.size = w.heap.size + 1 → Below w.heap.size w w' →
      w'.heap[w.heap.size]? = some (.cells #[.int .i64 x.kind, .int .u64 x.d, .int .u64 x.p, .int .i64 x.of] 39 (0, 0)) → Q .normal a' w') : r14.wp Tryz.prog Q ⟨⟨(List.range 277).map g⟩, []⟩ w := by
  have hh : r14 = r14 := rfl
  conv at hh => rhs; unfold r14 inner3 round3 loop0 s10 s9 s8 s7 s6 s5 s4 body3; simp only [Tryz.f3, c1, c2, cb]
  rw [hh]
  clear hh
  simp only [List.range, List.range.loop, List.map]
  have e4 := Lib.hid h4
  have e21 := Lib.hid h21
  rw [h4, h21]
  clear h4 h21
  have hlt := hx.lt
  obtain ⟨hx1, hx2, hx3, hx4⟩ := hx
  go_wp2
  refine hQ _ _ rfl rfl ?_ rfl (alloc_size _ _) ((Below.refl _ _).alloc (Nat.le_refl _) _) (alloc_at _ _)
  intro t ht
  simp only [keepS, List.mem_cons, List.not_mem_nil, or_false] at ht
  rcases ht with rfl | rfl | rfl | rfl | rfl | rfl | rfl | rfl | rfl | rfl | rfl | rfl | rfl <;> first | rfl | exact e4.out.symm | exact e21.out.symm
end Go.Proofs.YtkndlfdpmpdihaaGreatDoor
