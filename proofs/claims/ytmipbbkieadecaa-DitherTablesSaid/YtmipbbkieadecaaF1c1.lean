/- The levels of chapter 13: rows 106 to 183 of the finite check (printed by a small program). -/
import Derived.Test.YtmipbbkieadecaaF0
namespace Go.Proofs.Ytmipbbkieadecaa
theorem row106 : chkRow 106 = true := by decide +kernel
theorem row107 : chkRow 107 = true := by decide +kernel
theorem row108 : chkRow 108 = true := by decide +kernel
theorem row109 : chkRow 109 = true := by decide +kernel
theorem row110 : chkRow 110 = true := by decide +kernel
theorem row111 : chkRow 111 = true := by decide +kernel
theorem row112 : chkRow 112 = true := by decide +kernel
theorem row113 : chkRow 113 = true := by decide +kernel
theorem row114 : chkRow 114 = true := by decide +kernel
theorem row115 : chkRow 115 = true := by decide +kernel
theorem row116 : chkRow 116 = true := by decide +kernel
theorem row117 : chkRow 117 = true := by decide +kernel
theorem row118 : chkRow 118 = true := by decide +kernel
theorem row119 : chkRow 119 = true := by decide +kernel
theorem row120 : chkRow 120 = true := by decide +kernel
theorem row121 : chkRow 121 = true := by decide +kernel
theorem row122 : chkRow 122 = true := by decide +kernel
theorem row123 : chkRow 123 = true := by decide +kernel
theorem row124 : chkRow 124 = true := by decide +kernel
theorem row125 : chkRow 125 = true := by decide +kernel
theorem row126 : chkRow 126 = true := by decide +kernel
theorem row127 : chkRow 127 = true := by decide +kernel
theorem row128 : chkRow 128 = true := by decide +kernel
theorem row129 : chkRow 129 = true := by decide +kernel
theorem row130 : chkRow 130 = true := by decide +kernel
theorem row131 : chkRow 131 = true := by decide +kernel
theorem row132 : chkRow 132 = true := by decide +kernel
theorem row133 : chkRow 133 = true := by decide +kernel
theorem row134 : chkRow 134 = true := by decide +kernel
theorem row135 : chkRow 135 = true := by decide +kernel
theorem row136 : chkRow 136 = true := by decide +kernel
theorem row137 : chkRow 137 = true := by decide +kernel
theorem row138 : chkRow 138 = true := by decide +kernel
theorem row139 : chkRow 139 = true := by decide +kernel
theorem row140 : chkRow 140 = true := by decide +kernel
theorem row141 : chkRow 141 = true := by decide +kernel
theorem row142 : chkRow 142 = true := by decide +kernel
theorem row143 : chkRow 143 = true := by decide +kernel
theorem row144 : chkRow 144 = true := by decide +kernel
theorem row145 : chkRow 145 = true := by decide +kernel
theorem row146 : chkRow 146 = true := by decide +kernel
theorem row147 : chkRow 147 = true := by decide +kernel
theorem row148 : chkRow 148 = true := by decide +kernel
theorem row149 : chkRow 149 = true := by decide +kernel
theorem rows1 (n : Nat) (h1 : 106 ≤ n) (h2 : n ≤ 149) : chkRow n = true := by
  match n, h1, h2 with
  | 106, _, _ => exact row106
  | 107, _, _ => exact row107
  | 108, _, _ => exact row108
  | 109, _, _ => exact row109
  | 110, _, _ => exact row110
  | 111, _, _ => exact row111
  | 112, _, _ => exact row112
  | 113, _, _ => exact row113
  | 114, _, _ => exact row114
  | 115, _, _ => exact row115
  | 116, _, _ => exact row116
  | 117, _, _ => exact row117
  | 118, _, _ => exact row118
  | 119, _, _ => exact row119
  | 120, _, _ => exact row120
  | 121, _, _ => exact row121
  | 122, _, _ => exact row122
  | 123, _, _ => exact row123
  | 124, _, _ => exact row124
  | 125, _, _ => exact row125
  | 126, _, _ => exact row126
  | 127, _, _ => exact row127
  | 128, _, _ => exact row128
  | 129, _, _ => exact row129
  | 130, _, _ => exact row130
  | 131, _, _ => exact row131
  | 132, _, _ => exact row132
  | 133, _, _ => exact row133
  | 134, _, _ => exact row134
  | 135, _, _ => exact row135
  | 136, _, _ => exact row136
  | 137, _, _ => exact row137
  | 138, _, _ => exact row138
  | 139, _, _ => exact row139
  | 140, _, _ => exact row140
  | 141, _, _ => exact row141
  | 142, _, _ => exact row142
  | 143, _, _ => exact row143
  | 144, _, _ => exact row144
  | 145, _, _ => exact row145
  | 146, _, _ => exact row146
  | 147, _, _ => exact row147
  | 148, _, _ => exact row148
  | 149, _, _ => exact row149
  | n + 150, _, h2 => omega
theorem row150 : chkRow 150 = true := by decide +kernel
theorem row151 : chkRow 151 = true := by decide +kernel
theorem row152 : chkRow 152 = true := by decide +kernel
theorem row153 : chkRow 153 = true := by decide +kernel
theorem row154 : chkRow 154 = true := by decide +kernel
theorem row155 : chkRow 155 = true := by decide +kernel
theorem row156 : chkRow 156 = true := by decide +kernel
theorem row157 : chkRow 157 = true := by decide +kernel
theorem row158 : chkRow 158 = true := by decide +kernel
theorem row159 : chkRow 159 = true := by decide +kernel
theorem row160 : chkRow 160 = true := by decide +kernel
theorem row161 : chkRow 161 = true := by decide +kernel
theorem row162 : chkRow 162 = true := by decide +kernel
theorem row163 : chkRow 163 = true := by decide +kernel
theorem row164 : chkRow 164 = true := by decide +kernel
theorem row165 : chkRow 165 = true := by decide +kernel
theorem row166 : chkRow 166 = true := by decide +kernel
theorem row167 : chkRow 167 = true := by decide +kernel
theorem row168 : chkRow 168 = true := by decide +kernel
theorem row169 : chkRow 169 = true := by decide +kernel
theorem row170 : chkRow 170 = true := by decide +kernel
theorem row171 : chkRow 171 = true := by decide +kernel
theorem row172 : chkRow 172 = true := by decide +kernel
theorem row173 : chkRow 173 = true := by decide +kernel
theorem row174 : chkRow 174 = true := by decide +kernel
theorem row175 : chkRow 175 = true := by decide +kernel
theorem row176 : chkRow 176 = true := by decide +kernel
theorem row177 : chkRow 177 = true := by decide +kernel
theorem row178 : chkRow 178 = true := by decide +kernel
theorem row179 : chkRow 179 = true := by decide +kernel
theorem row180 : chkRow 180 = true := by decide +kernel
theorem row181 : chkRow 181 = true := by decide +kernel
theorem row182 : chkRow 182 = true := by decide +kernel
theorem row183 : chkRow 183 = true := by decide +kernel
theorem rows2 (n : Nat) (h1 : 150 ≤ n) (h2 : n ≤ 183) : chkRow n = true := by
  match n, h1, h2 with
  | 150, _, _ => exact row150
  | 151, _, _ => exact row151
  | 152, _, _ => exact row152
  | 153, _, _ => exact row153
  | 154, _, _ => exact row154
  | 155, _, _ => exact row155
  | 156, _, _ => exact row156
  | 157, _, _ => exact row157
  | 158, _, _ => exact row158
  | 159, _, _ => exact row159
  | 160, _, _ => exact row160
  | 161, _, _ => exact row161
  | 162, _, _ => exact row162
  | 163, _, _ => exact row163
  | 164, _, _ => exact row164
  | 165, _, _ => exact row165
  | 166, _, _ => exact row166
  | 167, _, _ => exact row167
  | 168, _, _ => exact row168
  | 169, _, _ => exact row169
  | 170, _, _ => exact row170
  | 171, _, _ => exact row171
  | 172, _, _ => exact row172
  | 173, _, _ => exact row173
  | 174, _, _ => exact row174
  | 175, _, _ => exact row175
  | 176, _, _ => exact row176
  | 177, _, _ => exact row177
  | 178, _, _ => exact row178
  | 179, _, _ => exact row179
  | 180, _, _ => exact row180
  | 181, _, _ => exact row181
  | 182, _, _ => exact row182
  | 183, _, _ => exact row183
  | n + 184, _, h2 => omega
end Go.Proofs.Ytmipbbkieadecaa
