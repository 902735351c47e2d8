/- The levels of chapter 13: rows 184 to 236 of the finite check (printed by a small program). -/
import Derived.Test.YtmipbbkieadecaaF0
namespace Go.Proofs.Ytmipbbkieadecaa
theorem row184 : chkRow 184 = true := by decide +kernel
theorem row185 : chkRow 185 = true := by decide +kernel
theorem row186 : chkRow 186 = true := by decide +kernel
theorem row187 : chkRow 187 = true := by decide +kernel
theorem row188 : chkRow 188 = true := by decide +kernel
theorem row189 : chkRow 189 = true := by decide +kernel
theorem row190 : chkRow 190 = true := by decide +kernel
theorem row191 : chkRow 191 = true := by decide +kernel
theorem row192 : chkRow 192 = true := by decide +kernel
theorem row193 : chkRow 193 = true := by decide +kernel
theorem row194 : chkRow 194 = true := by decide +kernel
theorem row195 : chkRow 195 = true := by decide +kernel
theorem row196 : chkRow 196 = true := by decide +kernel
theorem row197 : chkRow 197 = true := by decide +kernel
theorem row198 : chkRow 198 = true := by decide +kernel
theorem row199 : chkRow 199 = true := by decide +kernel
theorem row200 : chkRow 200 = true := by decide +kernel
theorem row201 : chkRow 201 = true := by decide +kernel
theorem row202 : chkRow 202 = true := by decide +kernel
theorem row203 : chkRow 203 = true := by decide +kernel
theorem row204 : chkRow 204 = true := by decide +kernel
theorem row205 : chkRow 205 = true := by decide +kernel
theorem row206 : chkRow 206 = true := by decide +kernel
theorem row207 : chkRow 207 = true := by decide +kernel
theorem row208 : chkRow 208 = true := by decide +kernel
theorem row209 : chkRow 209 = true := by decide +kernel
theorem row210 : chkRow 210 = true := by decide +kernel
theorem row211 : chkRow 211 = true := by decide +kernel
theorem rows3 (n : Nat) (h1 : 184 ≤ n) (h2 : n ≤ 211) : chkRow n = true := by
  match n, h1, h2 with
  | 184, _, _ => exact row184
  | 185, _, _ => exact row185
  | 186, _, _ => exact row186
  | 187, _, _ => exact row187
  | 188, _, _ => exact row188
  | 189, _, _ => exact row189
  | 190, _, _ => exact row190
  | 191, _, _ => exact row191
  | 192, _, _ => exact row192
  | 193, _, _ => exact row193
  | 194, _, _ => exact row194
  | 195, _, _ => exact row195
  | 196, _, _ => exact row196
  | 197, _, _ => exact row197
  | 198, _, _ => exact row198
  | 199, _, _ => exact row199
  | 200, _, _ => exact row200
  | 201, _, _ => exact row201
  | 202, _, _ => exact row202
  | 203, _, _ => exact row203
  | 204, _, _ => exact row204
  | 205, _, _ => exact row205
  | 206, _, _ => exact row206
  | 207, _, _ => exact row207
  | 208, _, _ => exact row208
  | 209, _, _ => exact row209
  | 210, _, _ => exact row210
  | 211, _, _ => exact row211
  | n + 212, _, h2 => omega
theorem row212 : chkRow 212 = true := by decide +kernel
theorem row213 : chkRow 213 = true := by decide +kernel
theorem row214 : chkRow 214 = true := by decide +kernel
theorem row215 : chkRow 215 = true := by decide +kernel
theorem row216 : chkRow 216 = true := by decide +kernel
theorem row217 : chkRow 217 = true := by decide +kernel
theorem row218 : chkRow 218 = true := by decide +kernel
theorem row219 : chkRow 219 = true := by decide +kernel
theorem row220 : chkRow 220 = true := by decide +kernel
theorem row221 : chkRow 221 = true := by decide +kernel
theorem row222 : chkRow 222 = true := by decide +kernel
theorem row223 : chkRow 223 = true := by decide +kernel
theorem row224 : chkRow 224 = true := by decide +kernel
theorem row225 : chkRow 225 = true := by decide +kernel
theorem row226 : chkRow 226 = true := by decide +kernel
theorem row227 : chkRow 227 = true := by decide +kernel
theorem row228 : chkRow 228 = true := by decide +kernel
theorem row229 : chkRow 229 = true := by decide +kernel
theorem row230 : chkRow 230 = true := by decide +kernel
theorem row231 : chkRow 231 = true := by decide +kernel
theorem row232 : chkRow 232 = true := by decide +kernel
theorem row233 : chkRow 233 = true := by decide +kernel
theorem row234 : chkRow 234 = true := by decide +kernel
theorem row235 : chkRow 235 = true := by decide +kernel
theorem row236 : chkRow 236 = true := by decide +kernel
theorem rows4 (n : Nat) (h1 : 212 ≤ n) (h2 : n ≤ 236) : chkRow n = true := by
  match n, h1, h2 with
  | 212, _, _ => exact row212
  | 213, _, _ => exact row213
  | 214, _, _ => exact row214
  | 215, _, _ => exact row215
  | 216, _, _ => exact row216
  | 217, _, _ => exact row217
  | 218, _, _ => exact row218
  | 219, _, _ => exact row219
  | 220, _, _ => exact row220
  | 221, _, _ => exact row221
  | 222, _, _ => exact row222
  | 223, _, _ => exact row223
  | 224, _, _ => exact row224
  | 225, _, _ => exact row225
  | 226, _, _ => exact row226
  | 227, _, _ => exact row227
  | 228, _, _ => exact row228
  | 229, _, _ => exact row229
  | 230, _, _ => exact row230
  | 231, _, _ => exact row231
  | 232, _, _ => exact row232
  | 233, _, _ => exact row233
  | 234, _, _ => exact row234
  | 235, _, _ => exact row235
  | 236, _, _ => exact row236
  | n + 237, _, h2 => omega
end Go.Proofs.Ytmipbbkieadecaa
