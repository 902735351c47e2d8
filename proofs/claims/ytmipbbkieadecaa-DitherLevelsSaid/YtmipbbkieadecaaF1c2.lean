/- The levels of chapter 13: rows 150 to 183 of the finite check (printed by a small program: wip/tools/rows.py). -/
import Derived.Test.YtmipbbkieadecaaF0
namespace Go.Proofs.Ytmipbbkieadecaa
theorem row150 : chkRow 150 = true := by decide +kernel
theorem row151 : chkRow 151 = true := by decide +kernel
theorem row152 : chkRow 152 = true := by decide +kernel
theorem row153 : chkRow 153 = true := by decide +kernel
theorem row154 : chkRow 154 = true := by decide +kernel
theorem row155 : chkRow 155 = true := by decide +kernel
theorem row156 : chkRow 156 = true := by decide +kernel
theorem row157 : chkRow 157 = true := by decide +kernel
theorem row158 : chkRow 158 = true := by decide +kernel
theorem row159 : chkRow 159 = true := by decide +kernel
theorem row160 : chkRow 160 = true := by decide +kernel
theorem row161 : chkRow 161 = true := by decide +kernel
theorem row162 : chkRow 162 = true := by decide +kernel
theorem row163 : chkRow 163 = true := by decide +kernel
theorem row164 : chkRow 164 = true := by decide +kernel
theorem row165 : chkRow 165 = true := by decide +kernel
theorem row166 : chkRow 166 = true := by decide +kernel
theorem row167 : chkRow 167 = true := by decide +kernel
theorem row168 : chkRow 168 = true := by decide +kernel
theorem row169 : chkRow 169 = true := by decide +kernel
theorem row170 : chkRow 170 = true := by decide +kernel
theorem row171 : chkRow 171 = true := by decide +kernel
theorem row172 : chkRow 172 = true := by decide +kernel
theorem row173 : chkRow 173 = true := by decide +kernel
theorem row174 : chkRow 174 = true := by decide +kernel
theorem row175 : chkRow 175 = true := by decide +kernel
theorem row176 : chkRow 176 = true := by decide +kernel
theorem row177 : chkRow 177 = true := by decide +kernel
theorem row178 : chkRow 178 = true := by decide +kernel
theorem row179 : chkRow 179 = true := by decide +kernel
theorem row180 : chkRow 180 = true := by decide +kernel
theorem row181 : chkRow 181 = true := by decide +kernel
theorem row182 : chkRow 182 = true := by decide +kernel
theorem row183 : chkRow 183 = true := by decide +kernel
theorem rows2 (n : Nat) (h1 : 150 ≤ n) (h2 : n ≤ 183) : chkRow n = true := by
  match n, h1, h2 with
  | 150, _, _ => exact row150
  | 151, _, _ => exact row151
  | 152, _, _ => exact row152
  | 153, _, _ => exact row153
  | 154, _, _ => exact row154
  | 155, _, _ => exact row155
  | 156, _, _ => exact row156
  | 157, _, _ => exact row157
  | 158, _, _ => exact row158
  | 159, _, _ => exact row159
  | 160, _, _ => exact row160
  | 161, _, _ => exact row161
  | 162, _, _ => exact row162
  | 163, _, _ => exact row163
  | 164, _, _ => exact row164
  | 165, _, _ => exact row165
  | 166, _, _ => exact row166
  | 167, _, _ => exact row167
  | 168, _, _ => exact row168
  | 169, _, _ => exact row169
  | 170, _, _ => exact row170
  | 171, _, _ => exact row171
  | 172, _, _ => exact row172
  | 173, _, _ => exact row173
  | 174, _, _ => exact row174
  | 175, _, _ => exact row175
  | 176, _, _ => exact row176
  | 177, _, _ => exact row177
  | 178, _, _ => exact row178
  | 179, _, _ => exact row179
  | 180, _, _ => exact row180
  | 181, _, _ => exact row181
  | 182, _, _ => exact row182
  | 183, _, _ => exact row183
  | n + 184, _, h2 => omega
end Go.Proofs.Ytmipbbkieadecaa
