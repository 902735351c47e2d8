/- The levels of chapter 13: rows 212 to 236 of the finite check (printed by a small program: wip/tools/rows.py). -/
import Derived.Test.YtmipbbkieadecaaF0
namespace Go.Proofs.Ytmipbbkieadecaa
theorem row212 : chkRow 212 = true := by decide +kernel
theorem row213 : chkRow 213 = true := by decide +kernel
theorem row214 : chkRow 214 = true := by decide +kernel
theorem row215 : chkRow 215 = true := by decide +kernel
theorem row216 : chkRow 216 = true := by decide +kernel
theorem row217 : chkRow 217 = true := by decide +kernel
theorem row218 : chkRow 218 = true := by decide +kernel
theorem row219 : chkRow 219 = true := by decide +kernel
theorem row220 : chkRow 220 = true := by decide +kernel
theorem row221 : chkRow 221 = true := by decide +kernel
theorem row222 : chkRow 222 = true := by decide +kernel
theorem row223 : chkRow 223 = true := by decide +kernel
theorem row224 : chkRow 224 = true := by decide +kernel
theorem row225 : chkRow 225 = true := by decide +kernel
theorem row226 : chkRow 226 = true := by decide +kernel
theorem row227 : chkRow 227 = true := by decide +kernel
theorem row228 : chkRow 228 = true := by decide +kernel
theorem row229 : chkRow 229 = true := by decide +kernel
theorem row230 : chkRow 230 = true := by decide +kernel
theorem row231 : chkRow 231 = true := by decide +kernel
theorem row232 : chkRow 232 = true := by decide +kernel
theorem row233 : chkRow 233 = true := by decide +kernel
theorem row234 : chkRow 234 = true := by decide +kernel
theorem row235 : chkRow 235 = true := by decide +kernel
theorem row236 : chkRow 236 = true := by decide +kernel
theorem rows4 (n : Nat) (h1 : 212 ≤ n) (h2 : n ≤ 236) : chkRow n = true := by
  match n, h1, h2 with
  | 212, _, _ => exact row212
  | 213, _, _ => exact row213
  | 214, _, _ => exact row214
  | 215, _, _ => exact row215
  | 216, _, _ => exact row216
  | 217, _, _ => exact row217
  | 218, _, _ => exact row218
  | 219, _, _ => exact row219
  | 220, _, _ => exact row220
  | 221, _, _ => exact row221
  | 222, _, _ => exact row222
  | 223, _, _ => exact row223
  | 224, _, _ => exact row224
  | 225, _, _ => exact row225
  | 226, _, _ => exact row226
  | 227, _, _ => exact row227
  | 228, _, _ => exact row228
  | 229, _, _ => exact row229
  | 230, _, _ => exact row230
  | 231, _, _ => exact row231
  | 232, _, _ => exact row232
  | 233, _, _ => exact row233
  | 234, _, _ => exact row234
  | 235, _, _ => exact row235
  | 236, _, _ => exact row236
  | n + 237, _, h2 => omega
end Go.Proofs.Ytmipbbkieadecaa
