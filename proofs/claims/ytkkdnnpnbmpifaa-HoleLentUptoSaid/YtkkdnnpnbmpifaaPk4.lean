import Derived.Test.YtkkdnnpnbmpifaaG5
namespace Go.Vc
set_option linter.unusedVariables false
set_option linter.unusedSimpArgs false
set_option autoImplicit false
set_option maxRecDepth 10000
theorem pk4_0 (a0 a1 a2 a3 a4 a5 a6 a7 a8 a9 a10 a11 : Int) : byteT (strm [4, 4, 8, 16, 16, 1, 1, 1, 13, 8, 8, 16] [a0, a1, a2, a3, a4, a5, a6, a7, a8, a9, a10, a11]) 96 0 = (a0 % 16) * 16 + (a1 % 16) := by
  simp [byteT, strm]; omega
theorem pk4_1 (a0 a1 a2 a3 a4 a5 a6 a7 a8 a9 a10 a11 : Int) : byteT (strm [4, 4, 8, 16, 16, 1, 1, 1, 13, 8, 8, 16] [a0, a1, a2, a3, a4, a5, a6, a7, a8, a9, a10, a11]) 96 1 = (a2 % 256) := by
  simp [byteT, strm]; omega
theorem pk4_2 (a0 a1 a2 a3 a4 a5 a6 a7 a8 a9 a10 a11 : Int) : byteT (strm [4, 4, 8, 16, 16, 1, 1, 1, 13, 8, 8, 16] [a0, a1, a2, a3, a4, a5, a6, a7, a8, a9, a10, a11]) 96 2 = (a3 / 256 % 256) := by
  simp [byteT, strm]; omega
theorem pk4_3 (a0 a1 a2 a3 a4 a5 a6 a7 a8 a9 a10 a11 : Int) : byteT (strm [4, 4, 8, 16, 16, 1, 1, 1, 13, 8, 8, 16] [a0, a1, a2, a3, a4, a5, a6, a7, a8, a9, a10, a11]) 96 3 = (a3 % 256) := by
  simp [byteT, strm]; omega
theorem pk4_4 (a0 a1 a2 a3 a4 a5 a6 a7 a8 a9 a10 a11 : Int) : byteT (strm [4, 4, 8, 16, 16, 1, 1, 1, 13, 8, 8, 16] [a0, a1, a2, a3, a4, a5, a6, a7, a8, a9, a10, a11]) 96 4 = (a4 / 256 % 256) := by
  simp [byteT, strm]; omega
theorem pk4_5 (a0 a1 a2 a3 a4 a5 a6 a7 a8 a9 a10 a11 : Int) : byteT (strm [4, 4, 8, 16, 16, 1, 1, 1, 13, 8, 8, 16] [a0, a1, a2, a3, a4, a5, a6, a7, a8, a9, a10, a11]) 96 5 = (a4 % 256) := by
  simp [byteT, strm]; omega
theorem pk4_6 (a0 a1 a2 a3 a4 a5 a6 a7 a8 a9 a10 a11 : Int) : byteT (strm [4, 4, 8, 16, 16, 1, 1, 1, 13, 8, 8, 16] [a0, a1, a2, a3, a4, a5, a6, a7, a8, a9, a10, a11]) 96 6 = (a5 % 2) * 128 + (a6 % 2) * 64 + (a7 % 2) * 32 + (a8 / 256 % 32) := by
  simp [byteT, strm]; omega
theorem pk4_7 (a0 a1 a2 a3 a4 a5 a6 a7 a8 a9 a10 a11 : Int) : byteT (strm [4, 4, 8, 16, 16, 1, 1, 1, 13, 8, 8, 16] [a0, a1, a2, a3, a4, a5, a6, a7, a8, a9, a10, a11]) 96 7 = (a8 % 256) := by
  simp [byteT, strm]; omega
theorem pk4_8 (a0 a1 a2 a3 a4 a5 a6 a7 a8 a9 a10 a11 : Int) : byteT (strm [4, 4, 8, 16, 16, 1, 1, 1, 13, 8, 8, 16] [a0, a1, a2, a3, a4, a5, a6, a7, a8, a9, a10, a11]) 96 8 = (a9 % 256) := by
  simp [byteT, strm]; omega
theorem pk4_9 (a0 a1 a2 a3 a4 a5 a6 a7 a8 a9 a10 a11 : Int) : byteT (strm [4, 4, 8, 16, 16, 1, 1, 1, 13, 8, 8, 16] [a0, a1, a2, a3, a4, a5, a6, a7, a8, a9, a10, a11]) 96 9 = (a10 % 256) := by
  simp [byteT, strm]; omega
theorem pk4_10 (a0 a1 a2 a3 a4 a5 a6 a7 a8 a9 a10 a11 : Int) : byteT (strm [4, 4, 8, 16, 16, 1, 1, 1, 13, 8, 8, 16] [a0, a1, a2, a3, a4, a5, a6, a7, a8, a9, a10, a11]) 96 10 = (a11 / 256 % 256) := by
  simp [byteT, strm]; omega
theorem pk4_11 (a0 a1 a2 a3 a4 a5 a6 a7 a8 a9 a10 a11 : Int) : byteT (strm [4, 4, 8, 16, 16, 1, 1, 1, 13, 8, 8, 16] [a0, a1, a2, a3, a4, a5, a6, a7, a8, a9, a10, a11]) 96 11 = (a11 % 256) := by
  simp [byteT, strm]; omega
theorem pk4_all (a0 a1 a2 a3 a4 a5 a6 a7 a8 a9 a10 a11 : Int) : packB [4, 4, 8, 16, 16, 1, 1, 1, 13, 8, 8, 16] [a0, a1, a2, a3, a4, a5, a6, a7, a8, a9, a10, a11] 12 = [(a0 % 16) * 16 + (a1 % 16), (a2 % 256), (a3 / 256 % 256), (a3 % 256), (a4 / 256 % 256), (a4 % 256), (a5 % 2) * 128 + (a6 % 2) * 64 + (a7 % 2) * 32 + (a8 / 256 % 32), (a8 % 256), (a9 % 256), (a10 % 256), (a11 / 256 % 256), (a11 % 256)] := by
  have h : packB [4, 4, 8, 16, 16, 1, 1, 1, 13, 8, 8, 16] [a0, a1, a2, a3, a4, a5, a6, a7, a8, a9, a10, a11] 12 = [byteT (strm [4, 4, 8, 16, 16, 1, 1, 1, 13, 8, 8, 16] [a0, a1, a2, a3, a4, a5, a6, a7, a8, a9, a10, a11]) 96 0, byteT (strm [4, 4, 8, 16, 16, 1, 1, 1, 13, 8, 8, 16] [a0, a1, a2, a3, a4, a5, a6, a7, a8, a9, a10, a11]) 96 1, byteT (strm [4, 4, 8, 16, 16, 1, 1, 1, 13, 8, 8, 16] [a0, a1, a2, a3, a4, a5, a6, a7, a8, a9, a10, a11]) 96 2, byteT (strm [4, 4, 8, 16, 16, 1, 1, 1, 13, 8, 8, 16] [a0, a1, a2, a3, a4, a5, a6, a7, a8, a9, a10, a11]) 96 3, byteT (strm [4, 4, 8, 16, 16, 1, 1, 1, 13, 8, 8, 16] [a0, a1, a2, a3, a4, a5, a6, a7, a8, a9, a10, a11]) 96 4, byteT (strm [4, 4, 8, 16, 16, 1, 1, 1, 13, 8, 8, 16] [a0, a1, a2, a3, a4, a5, a6, a7, a8, a9, a10, a11]) 96 5, byteT (strm [4, 4, 8, 16, 16, 1, 1, 1, 13, 8, 8, 16] [a0, a1, a2, a3, a4, a5, a6, a7, a8, a9, a10, a11]) 96 6, byteT (strm [4, 4, 8, 16, 16, 1, 1, 1, 13, 8, 8, 16] [a0, a1, a2, a3, a4, a5, a6, a7, a8, a9, a10, a11]) 96 7, byteT (strm [4, 4, 8, 16, 16, 1, 1, 1, 13, 8, 8, 16] [a0, a1, a2, a3, a4, a5, a6, a7, a8, a9, a10, a11]) 96 8, byteT (strm [4, 4, 8, 16, 16, 1, 1, 1, 13, 8, 8, 16] [a0, a1, a2, a3, a4, a5, a6, a7, a8, a9, a10, a11]) 96 9, byteT (strm [4, 4, 8, 16, 16, 1, 1, 1, 13, 8, 8, 16] [a0, a1, a2, a3, a4, a5, a6, a7, a8, a9, a10, a11]) 96 10, byteT (strm [4, 4, 8, 16, 16, 1, 1, 1, 13, 8, 8, 16] [a0, a1, a2, a3, a4, a5, a6, a7, a8, a9, a10, a11]) 96 11] := rfl
  rw [h, pk4_0, pk4_1, pk4_2, pk4_3, pk4_4, pk4_5, pk4_6, pk4_7, pk4_8, pk4_9, pk4_10, pk4_11]
end Go.Vc
