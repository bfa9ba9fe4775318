/-
  The types' rows are laid out, part by part, by the kernel.
-/
import Derived.Test.YthbmnacleneflaaGreatDoorProg
import Derived.Test.YthbmnacleneflaaGreatDoorBig
import Derived.KernelRfl
import Derived.Test.YthbmnacleneflaaGreatDoorBt0
import Derived.Test.YthbmnacleneflaaGreatDoorBt1
import Derived.Test.YthbmnacleneflaaGreatDoorBt2
import Derived.Test.YthbmnacleneflaaGreatDoorRows
import Derived.JoinedOf
set_option linter.unusedVariables false
set_option maxRecDepth 1000000
namespace Go.Proofs.YthbmnacleneflaaGreatDoor
open Go Go.Proofs.YthbmnacleneflaaGreatDoor.big Go.Proofs.YthbmnacleneflaaGreatDoor.ae
theorem ho0 : (((List.range Tryz.prog.types.size).drop 0).take 300).all (rowFine Tryz.prog) = true := by kernel_rfl
theorem ho1 : (((List.range Tryz.prog.types.size).drop 300).take 300).all (rowFine Tryz.prog) = true := by kernel_rfl
theorem ho2 : (((List.range Tryz.prog.types.size).drop 600).take 133).all (rowFine Tryz.prog) = true := by kernel_rfl
theorem hglob : Tryz.prog.globals.all (fun g => decide (g.type < Tryz.prog.types.size)) = true := by kernel_rfl
end Go.Proofs.YthbmnacleneflaaGreatDoor
/-
  The closure of the law's calls, over the tables.
-/
set_option linter.unusedVariables false
set_option maxRecDepth 1000000
namespace Go.Proofs.YthbmnacleneflaaGreatDoor
open Go Go.Proofs.YthbmnacleneflaaGreatDoor.big Go.Proofs.YthbmnacleneflaaGreatDoor.ae
def tl := (tl0 ++ (tl1 ++ (tl2 ++ (tl3 ++ ([] : List (List Nat))))))
theorem hl : Tryz.prog.funcs.toList.map Tryz.prog.leadsTo = tl := (part_map _ _ 0 200 hl0 (part_map _ _ 200 200 hl1 (part_map _ _ 400 200 hl2 (part_map _ _ 600 24 hl3 (by kernel_rfl : (Tryz.prog.funcs.toList.drop 624).map Tryz.prog.leadsTo = [])))))
theorem sl : tl.length + 1 < 2 ^ 24 := of_decide_eq_true (by kernel_rfl)
def ti := (ti0 ++ (ti1 ++ (ti2 ++ (ti3 ++ ([] : List (Option String))))))
theorem hi : Tryz.prog.funcs.toList.map kIn = ti := (part_map _ _ 0 200 hi0 (part_map _ _ 200 200 hi1 (part_map _ _ 400 200 hi2 (part_map _ _ 600 24 hi3 (by kernel_rfl : (Tryz.prog.funcs.toList.drop 624).map kIn = [])))))
theorem si : ti.length + 1 < 2 ^ 24 := of_decide_eq_true (by kernel_rfl)
def tg := (tg0 ++ (tg1 ++ (tg2 ++ (tg3 ++ ([] : List (List Nat))))))
theorem hg : Tryz.prog.funcs.toList.map kGl = tg := (part_map _ _ 0 200 hg0 (part_map _ _ 200 200 hg1 (part_map _ _ 400 200 hg2 (part_map _ _ 600 24 hg3 (by kernel_rfl : (Tryz.prog.funcs.toList.drop 624).map kGl = [])))))
theorem sg : tg.length + 1 < 2 ^ 24 := of_decide_eq_true (by kernel_rfl)
def te := (te0 ++ (te1 ++ (te2 ++ (te3 ++ ([] : List (Option String))))))
theorem he : Tryz.prog.funcs.toList.map kEn = te := (part_map _ _ 0 200 he0 (part_map _ _ 200 200 he1 (part_map _ _ 400 200 he2 (part_map _ _ 600 24 he3 (by kernel_rfl : (Tryz.prog.funcs.toList.drop 624).map kEn = [])))))
theorem se : te.length + 1 < 2 ^ 24 := of_decide_eq_true (by kernel_rfl)
theorem bl : tl.all (fun l => l.all fun x => Nat.blt (x + 1) 16777216) = true := by kernel_rfl
def clo : List Nat := [3, 5, 15, 37, 38, 56, 71, 103, 160, 159, 16, 17, 26, 25, 40, 18, 6, 19, 20, 21, 39, 57, 72, 105, 104, 22, 23, 36, 31, 52, 14, 24, 7, 8, 27, 41, 28, 43, 58, 74, 110, 171, 237, 109, 168, 222, 169, 170, 223, 224, 225, 236, 235, 304, 388, 227, 226, 228, 229, 305, 306, 389, 478, 390, 479, 480, 481, 546, 482, 399, 489, 547, 582, 588, 559, 585, 589, 561, 560, 391, 483, 484, 485, 548, 583, 392, 486, 232, 307, 231, 233, 230, 234, 308, 314, 400, 401, 419, 508, 490, 550, 322, 402, 491, 551, 403, 404, 323, 393, 309, 394, 395, 396, 73, 106, 161, 162, 107, 163, 165, 164, 166, 220, 303, 189, 259, 108, 167, 221, 185, 258, 188, 59, 75, 111, 114, 180, 120, 172, 238, 173, 175, 242, 174, 239, 240, 310, 241, 176, 243, 312, 313, 397, 487, 398, 488, 123, 549, 467, 311, 249, 317, 316, 405, 131, 318, 260, 406, 407, 492, 408, 493, 193, 261, 331, 332, 426, 333, 334, 427, 513, 563, 514, 564, 515, 194, 262, 335, 263, 494, 495, 326, 422, 512, 562, 586, 124, 192, 319, 409, 410, 411, 112, 177, 244, 315, 76, 115, 181, 251, 324, 254, 325, 420, 252, 253, 509, 421, 510, 511, 556, 557, 558, 116, 182, 255, 327, 328, 423, 329, 245, 190, 246, 247, 248, 77, 117, 82, 127, 183, 184, 256, 257, 330, 424, 425, 118, 119, 186, 121, 187, 122, 191, 125, 113, 178, 179, 250, 320, 412, 496, 497, 500, 498, 499, 416, 504, 552, 584, 477, 553, 505, 554, 506, 413, 501, 414, 502, 503, 415, 417, 507, 555, 418, 321, 60, 78, 79, 80, 126, 195, 264, 147, 81, 42, 29, 44, 30, 46, 61, 83, 128, 197, 267, 268, 340, 339, 269, 341, 196, 265, 336, 266, 337, 428, 516, 517, 518, 519, 520, 565, 566, 567, 568, 569, 522, 338, 429, 521, 523, 570, 571, 84, 129, 130, 132, 64, 90, 140, 141, 48, 142, 209, 289, 367, 368, 369, 460, 536, 210, 290, 143, 211, 291, 212, 213, 292, 144, 214, 293, 370, 371, 464, 542, 49, 461, 537, 538, 578, 539, 579, 462, 541, 540, 580, 463, 294, 145, 215, 295, 296, 372, 465, 146, 149, 150, 148, 91, 151, 216, 298, 299, 375, 376, 377, 448, 442, 527, 528, 380, 385, 378, 473, 472, 278, 354, 355, 435, 359, 446, 530, 572, 573, 574, 575, 587, 102, 447, 445, 529, 444, 437, 438, 441, 525, 439, 526, 436, 280, 356, 440, 358, 443, 281, 379, 297, 373, 466, 543, 544, 581, 374, 468, 469, 470, 471, 217, 152, 218, 300, 381, 474, 545, 475, 302, 86, 87, 301, 382, 383, 476, 384, 386, 387, 63, 85, 133, 134, 89, 139, 206, 282, 284, 285, 361, 362, 364, 158, 363, 283, 360, 449, 450, 531, 576, 208, 288, 207, 286, 365, 287, 70, 101, 366, 451, 457, 535, 452, 532, 453, 154, 155, 454, 533, 534, 577, 455, 456, 458, 459, 88, 135, 198, 199, 136, 200, 137, 201, 270, 342, 343, 430, 344, 345, 431, 432, 524, 346, 347, 348, 349, 202, 203, 271, 272, 276, 353, 274, 350, 351, 273, 275, 352, 433, 434, 138, 204, 277, 205, 279, 357, 62, 45, 47, 66, 65, 50, 51, 67, 10, 33, 32, 9]
theorem hclo : Tryz.prog.closure 3 = clo := (closure_eq hl sl bl 3 (by decide)).trans (by kernel_rfl)
theorem hunf : Tryz.prog.unfollowed 3 = true := unfollowed_of (g := 25) hclo (by kernel_rfl) Tryz.func25 rfl (by kernel_rfl)
end Go.Proofs.YthbmnacleneflaaGreatDoor
/-
  Closed facts of the row over the closure of the law's calls.
-/
set_option linter.unusedVariables false
set_option maxRecDepth 1000000
namespace Go.Proofs.YthbmnacleneflaaGreatDoor
open Go Go.Proofs.YthbmnacleneflaaGreatDoor.big Go.Proofs.YthbmnacleneflaaGreatDoor.ae
theorem jj1 : laidOutB Tryz.prog = true := by
  unfold laidOutB
  have h1 : (List.range Tryz.prog.types.size).all (rowFine Tryz.prog) = true := (part_all _ _ 0 300 ho0 (part_all _ _ 300 300 ho1 (part_all _ _ 600 133 ho2 (by kernel_rfl : ((List.range Tryz.prog.types.size).drop 733).all (rowFine Tryz.prog) = true))))
  have h2 : Tryz.prog.funcs.all (fun f => f.params.all fun t => decide (t < Tryz.prog.types.size)) = true := by
    rw [← Array.all_toList]
    exact (part_all _ _ 0 200 hf0 (part_all _ _ 200 200 hf1 (part_all _ _ 400 200 hf2 (part_all _ _ 600 24 hf3 (by kernel_rfl : (Tryz.prog.funcs.toList.drop 624).all (fun f => f.params.all fun t => decide (t < Tryz.prog.types.size)) = true)))))
  rw [h1, hglob, h2]
  rfl
theorem jj9 : (Rows.depsClosureRow.inPlace == Tryz.prog.inPlace 3) = true := by rw [inPlace_eq hi si hclo]; kernel_rfl
theorem jj10 : (Rows.depsClosureRow.unfollowed == Tryz.prog.unfollowed 3) = true := by rw [hunf]; kernel_rfl
theorem jj11 : (Rows.depsClosureRow.recurses == Tryz.prog.recurses 3) = true := by rw [recurses_of hunf]; kernel_rfl
theorem jj12 : (Rows.depsClosureRow.named == Tryz.prog.varsNamed 3) = true := by rw [varsNamed_eq hg sg he se hclo]; kernel_rfl
end Go.Proofs.YthbmnacleneflaaGreatDoor
