/- The levels of chapter 13: rows 2 to 105 of the finite check (printed by a small program: wip/tools/rows.py). -/
import Derived.Test.YtmipbbkieadecaaF0
namespace Go.Proofs.Ytmipbbkieadecaa
theorem row2 : chkRow 2 = true := by decide +kernel
theorem row3 : chkRow 3 = true := by decide +kernel
theorem row4 : chkRow 4 = true := by decide +kernel
theorem row5 : chkRow 5 = true := by decide +kernel
theorem row6 : chkRow 6 = true := by decide +kernel
theorem row7 : chkRow 7 = true := by decide +kernel
theorem row8 : chkRow 8 = true := by decide +kernel
theorem row9 : chkRow 9 = true := by decide +kernel
theorem row10 : chkRow 10 = true := by decide +kernel
theorem row11 : chkRow 11 = true := by decide +kernel
theorem row12 : chkRow 12 = true := by decide +kernel
theorem row13 : chkRow 13 = true := by decide +kernel
theorem row14 : chkRow 14 = true := by decide +kernel
theorem row15 : chkRow 15 = true := by decide +kernel
theorem row16 : chkRow 16 = true := by decide +kernel
theorem row17 : chkRow 17 = true := by decide +kernel
theorem row18 : chkRow 18 = true := by decide +kernel
theorem row19 : chkRow 19 = true := by decide +kernel
theorem row20 : chkRow 20 = true := by decide +kernel
theorem row21 : chkRow 21 = true := by decide +kernel
theorem row22 : chkRow 22 = true := by decide +kernel
theorem row23 : chkRow 23 = true := by decide +kernel
theorem row24 : chkRow 24 = true := by decide +kernel
theorem row25 : chkRow 25 = true := by decide +kernel
theorem row26 : chkRow 26 = true := by decide +kernel
theorem row27 : chkRow 27 = true := by decide +kernel
theorem row28 : chkRow 28 = true := by decide +kernel
theorem row29 : chkRow 29 = true := by decide +kernel
theorem row30 : chkRow 30 = true := by decide +kernel
theorem row31 : chkRow 31 = true := by decide +kernel
theorem row32 : chkRow 32 = true := by decide +kernel
theorem row33 : chkRow 33 = true := by decide +kernel
theorem row34 : chkRow 34 = true := by decide +kernel
theorem row35 : chkRow 35 = true := by decide +kernel
theorem row36 : chkRow 36 = true := by decide +kernel
theorem row37 : chkRow 37 = true := by decide +kernel
theorem row38 : chkRow 38 = true := by decide +kernel
theorem row39 : chkRow 39 = true := by decide +kernel
theorem row40 : chkRow 40 = true := by decide +kernel
theorem row41 : chkRow 41 = true := by decide +kernel
theorem row42 : chkRow 42 = true := by decide +kernel
theorem row43 : chkRow 43 = true := by decide +kernel
theorem row44 : chkRow 44 = true := by decide +kernel
theorem row45 : chkRow 45 = true := by decide +kernel
theorem row46 : chkRow 46 = true := by decide +kernel
theorem row47 : chkRow 47 = true := by decide +kernel
theorem row48 : chkRow 48 = true := by decide +kernel
theorem row49 : chkRow 49 = true := by decide +kernel
theorem row50 : chkRow 50 = true := by decide +kernel
theorem row51 : chkRow 51 = true := by decide +kernel
theorem row52 : chkRow 52 = true := by decide +kernel
theorem row53 : chkRow 53 = true := by decide +kernel
theorem row54 : chkRow 54 = true := by decide +kernel
theorem row55 : chkRow 55 = true := by decide +kernel
theorem row56 : chkRow 56 = true := by decide +kernel
theorem row57 : chkRow 57 = true := by decide +kernel
theorem row58 : chkRow 58 = true := by decide +kernel
theorem row59 : chkRow 59 = true := by decide +kernel
theorem row60 : chkRow 60 = true := by decide +kernel
theorem row61 : chkRow 61 = true := by decide +kernel
theorem row62 : chkRow 62 = true := by decide +kernel
theorem row63 : chkRow 63 = true := by decide +kernel
theorem row64 : chkRow 64 = true := by decide +kernel
theorem row65 : chkRow 65 = true := by decide +kernel
theorem row66 : chkRow 66 = true := by decide +kernel
theorem row67 : chkRow 67 = true := by decide +kernel
theorem row68 : chkRow 68 = true := by decide +kernel
theorem row69 : chkRow 69 = true := by decide +kernel
theorem row70 : chkRow 70 = true := by decide +kernel
theorem row71 : chkRow 71 = true := by decide +kernel
theorem row72 : chkRow 72 = true := by decide +kernel
theorem row73 : chkRow 73 = true := by decide +kernel
theorem row74 : chkRow 74 = true := by decide +kernel
theorem row75 : chkRow 75 = true := by decide +kernel
theorem row76 : chkRow 76 = true := by decide +kernel
theorem row77 : chkRow 77 = true := by decide +kernel
theorem row78 : chkRow 78 = true := by decide +kernel
theorem row79 : chkRow 79 = true := by decide +kernel
theorem row80 : chkRow 80 = true := by decide +kernel
theorem row81 : chkRow 81 = true := by decide +kernel
theorem row82 : chkRow 82 = true := by decide +kernel
theorem row83 : chkRow 83 = true := by decide +kernel
theorem row84 : chkRow 84 = true := by decide +kernel
theorem row85 : chkRow 85 = true := by decide +kernel
theorem row86 : chkRow 86 = true := by decide +kernel
theorem row87 : chkRow 87 = true := by decide +kernel
theorem row88 : chkRow 88 = true := by decide +kernel
theorem row89 : chkRow 89 = true := by decide +kernel
theorem row90 : chkRow 90 = true := by decide +kernel
theorem row91 : chkRow 91 = true := by decide +kernel
theorem row92 : chkRow 92 = true := by decide +kernel
theorem row93 : chkRow 93 = true := by decide +kernel
theorem row94 : chkRow 94 = true := by decide +kernel
theorem row95 : chkRow 95 = true := by decide +kernel
theorem row96 : chkRow 96 = true := by decide +kernel
theorem row97 : chkRow 97 = true := by decide +kernel
theorem row98 : chkRow 98 = true := by decide +kernel
theorem row99 : chkRow 99 = true := by decide +kernel
theorem row100 : chkRow 100 = true := by decide +kernel
theorem row101 : chkRow 101 = true := by decide +kernel
theorem row102 : chkRow 102 = true := by decide +kernel
theorem row103 : chkRow 103 = true := by decide +kernel
theorem row104 : chkRow 104 = true := by decide +kernel
theorem row105 : chkRow 105 = true := by decide +kernel
theorem rows0 (n : Nat) (h1 : 2 ≤ n) (h2 : n ≤ 105) : chkRow n = true := by
  match n, h1, h2 with
  | 2, _, _ => exact row2
  | 3, _, _ => exact row3
  | 4, _, _ => exact row4
  | 5, _, _ => exact row5
  | 6, _, _ => exact row6
  | 7, _, _ => exact row7
  | 8, _, _ => exact row8
  | 9, _, _ => exact row9
  | 10, _, _ => exact row10
  | 11, _, _ => exact row11
  | 12, _, _ => exact row12
  | 13, _, _ => exact row13
  | 14, _, _ => exact row14
  | 15, _, _ => exact row15
  | 16, _, _ => exact row16
  | 17, _, _ => exact row17
  | 18, _, _ => exact row18
  | 19, _, _ => exact row19
  | 20, _, _ => exact row20
  | 21, _, _ => exact row21
  | 22, _, _ => exact row22
  | 23, _, _ => exact row23
  | 24, _, _ => exact row24
  | 25, _, _ => exact row25
  | 26, _, _ => exact row26
  | 27, _, _ => exact row27
  | 28, _, _ => exact row28
  | 29, _, _ => exact row29
  | 30, _, _ => exact row30
  | 31, _, _ => exact row31
  | 32, _, _ => exact row32
  | 33, _, _ => exact row33
  | 34, _, _ => exact row34
  | 35, _, _ => exact row35
  | 36, _, _ => exact row36
  | 37, _, _ => exact row37
  | 38, _, _ => exact row38
  | 39, _, _ => exact row39
  | 40, _, _ => exact row40
  | 41, _, _ => exact row41
  | 42, _, _ => exact row42
  | 43, _, _ => exact row43
  | 44, _, _ => exact row44
  | 45, _, _ => exact row45
  | 46, _, _ => exact row46
  | 47, _, _ => exact row47
  | 48, _, _ => exact row48
  | 49, _, _ => exact row49
  | 50, _, _ => exact row50
  | 51, _, _ => exact row51
  | 52, _, _ => exact row52
  | 53, _, _ => exact row53
  | 54, _, _ => exact row54
  | 55, _, _ => exact row55
  | 56, _, _ => exact row56
  | 57, _, _ => exact row57
  | 58, _, _ => exact row58
  | 59, _, _ => exact row59
  | 60, _, _ => exact row60
  | 61, _, _ => exact row61
  | 62, _, _ => exact row62
  | 63, _, _ => exact row63
  | 64, _, _ => exact row64
  | 65, _, _ => exact row65
  | 66, _, _ => exact row66
  | 67, _, _ => exact row67
  | 68, _, _ => exact row68
  | 69, _, _ => exact row69
  | 70, _, _ => exact row70
  | 71, _, _ => exact row71
  | 72, _, _ => exact row72
  | 73, _, _ => exact row73
  | 74, _, _ => exact row74
  | 75, _, _ => exact row75
  | 76, _, _ => exact row76
  | 77, _, _ => exact row77
  | 78, _, _ => exact row78
  | 79, _, _ => exact row79
  | 80, _, _ => exact row80
  | 81, _, _ => exact row81
  | 82, _, _ => exact row82
  | 83, _, _ => exact row83
  | 84, _, _ => exact row84
  | 85, _, _ => exact row85
  | 86, _, _ => exact row86
  | 87, _, _ => exact row87
  | 88, _, _ => exact row88
  | 89, _, _ => exact row89
  | 90, _, _ => exact row90
  | 91, _, _ => exact row91
  | 92, _, _ => exact row92
  | 93, _, _ => exact row93
  | 94, _, _ => exact row94
  | 95, _, _ => exact row95
  | 96, _, _ => exact row96
  | 97, _, _ => exact row97
  | 98, _, _ => exact row98
  | 99, _, _ => exact row99
  | 100, _, _ => exact row100
  | 101, _, _ => exact row101
  | 102, _, _ => exact row102
  | 103, _, _ => exact row103
  | 104, _, _ => exact row104
  | 105, _, _ => exact row105
  | n + 106, _, h2 => omega
end Go.Proofs.Ytmipbbkieadecaa
