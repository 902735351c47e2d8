/- The levels of chapter 13: rows 106 to 149 of the finite check (printed by a small program: wip/tools/rows.py). -/
import Derived.Test.YtmipbbkieadecaaF0
namespace Go.Proofs.Ytmipbbkieadecaa
theorem row106 : chkRow 106 = true := by decide +kernel
theorem row107 : chkRow 107 = true := by decide +kernel
theorem row108 : chkRow 108 = true := by decide +kernel
theorem row109 : chkRow 109 = true := by decide +kernel
theorem row110 : chkRow 110 = true := by decide +kernel
theorem row111 : chkRow 111 = true := by decide +kernel
theorem row112 : chkRow 112 = true := by decide +kernel
theorem row113 : chkRow 113 = true := by decide +kernel
theorem row114 : chkRow 114 = true := by decide +kernel
theorem row115 : chkRow 115 = true := by decide +kernel
theorem row116 : chkRow 116 = true := by decide +kernel
theorem row117 : chkRow 117 = true := by decide +kernel
theorem row118 : chkRow 118 = true := by decide +kernel
theorem row119 : chkRow 119 = true := by decide +kernel
theorem row120 : chkRow 120 = true := by decide +kernel
theorem row121 : chkRow 121 = true := by decide +kernel
theorem row122 : chkRow 122 = true := by decide +kernel
theorem row123 : chkRow 123 = true := by decide +kernel
theorem row124 : chkRow 124 = true := by decide +kernel
theorem row125 : chkRow 125 = true := by decide +kernel
theorem row126 : chkRow 126 = true := by decide +kernel
theorem row127 : chkRow 127 = true := by decide +kernel
theorem row128 : chkRow 128 = true := by decide +kernel
theorem row129 : chkRow 129 = true := by decide +kernel
theorem row130 : chkRow 130 = true := by decide +kernel
theorem row131 : chkRow 131 = true := by decide +kernel
theorem row132 : chkRow 132 = true := by decide +kernel
theorem row133 : chkRow 133 = true := by decide +kernel
theorem row134 : chkRow 134 = true := by decide +kernel
theorem row135 : chkRow 135 = true := by decide +kernel
theorem row136 : chkRow 136 = true := by decide +kernel
theorem row137 : chkRow 137 = true := by decide +kernel
theorem row138 : chkRow 138 = true := by decide +kernel
theorem row139 : chkRow 139 = true := by decide +kernel
theorem row140 : chkRow 140 = true := by decide +kernel
theorem row141 : chkRow 141 = true := by decide +kernel
theorem row142 : chkRow 142 = true := by decide +kernel
theorem row143 : chkRow 143 = true := by decide +kernel
theorem row144 : chkRow 144 = true := by decide +kernel
theorem row145 : chkRow 145 = true := by decide +kernel
theorem row146 : chkRow 146 = true := by decide +kernel
theorem row147 : chkRow 147 = true := by decide +kernel
theorem row148 : chkRow 148 = true := by decide +kernel
theorem row149 : chkRow 149 = true := by decide +kernel
theorem rows1 (n : Nat) (h1 : 106 ≤ n) (h2 : n ≤ 149) : chkRow n = true := by
  match n, h1, h2 with
  | 106, _, _ => exact row106
  | 107, _, _ => exact row107
  | 108, _, _ => exact row108
  | 109, _, _ => exact row109
  | 110, _, _ => exact row110
  | 111, _, _ => exact row111
  | 112, _, _ => exact row112
  | 113, _, _ => exact row113
  | 114, _, _ => exact row114
  | 115, _, _ => exact row115
  | 116, _, _ => exact row116
  | 117, _, _ => exact row117
  | 118, _, _ => exact row118
  | 119, _, _ => exact row119
  | 120, _, _ => exact row120
  | 121, _, _ => exact row121
  | 122, _, _ => exact row122
  | 123, _, _ => exact row123
  | 124, _, _ => exact row124
  | 125, _, _ => exact row125
  | 126, _, _ => exact row126
  | 127, _, _ => exact row127
  | 128, _, _ => exact row128
  | 129, _, _ => exact row129
  | 130, _, _ => exact row130
  | 131, _, _ => exact row131
  | 132, _, _ => exact row132
  | 133, _, _ => exact row133
  | 134, _, _ => exact row134
  | 135, _, _ => exact row135
  | 136, _, _ => exact row136
  | 137, _, _ => exact row137
  | 138, _, _ => exact row138
  | 139, _, _ => exact row139
  | 140, _, _ => exact row140
  | 141, _, _ => exact row141
  | 142, _, _ => exact row142
  | 143, _, _ => exact row143
  | 144, _, _ => exact row144
  | 145, _, _ => exact row145
  | 146, _, _ => exact row146
  | 147, _, _ => exact row147
  | 148, _, _ => exact row148
  | 149, _, _ => exact row149
  | n + 150, _, h2 => omega
end Go.Proofs.Ytmipbbkieadecaa
