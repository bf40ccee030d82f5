import GoSem.ClaimFn
import Derived.Test.YtchpbdodlbghaaaGreatDoorGrB
import Derived.Test.YtchpbdodlbghaaaGreatDoorWai
namespace Go.Proofs.YtchpbdodlbghaaaGreatDoor
open Go Go.Proofs
set_option maxRecDepth 100000
def ld0 : List (List Nat) := [[], [], [1], [5, 4, 6, 4, 7], [6, 8, 9, 11, 10, 12], [], [13, 14], [5, 4, 9, 4], [15], [16, 17, 18], [19], [20, 8, 8, 8, 8, 8, 21], [], [22], [23], [24], [25], [27, 26, 28, 30, 29, 32, 31], [], [33], [34, 35], [36], [], [37, 38, 38, 39, 39, 40, 39, 40, 39, 40, 39, 39, 39, 39, 39, 39, 41], [42], [], [], [], [], [43], [43], [44, 45], [46, 45], [], [47, 48, 49, 50], [51, 52, 53, 54, 54, 55, 56, 56, 57], [58, 59], [], [60], [38], [38], [61, 62], [63, 64, 65, 66], [], [67], [68], [69, 44], [70], [71, 72, 71, 73, 71, 74, 71, 75, 71, 76, 77, 78], [79], [80], [81], [82, 83, 84, 85], [86, 87, 84], [85, 88], [86, 89, 90, 91, 92], [86, 93, 94, 95, 96, 90, 97, 98, 92], [99, 100], [101, 102], [58, 15, 103]]
theorem ldc0 : ((List.range' 0 60).map fun k => (Tryz.prog.funcs[k]?).elim [] Tryz.prog.leadsTo) = ld0 := by kernel_rfl
def ld1 : List (List Nat) := [[104, 105], [], [106, 107, 110, 109], [], [112, 111, 113], [], [114, 115], [], [116, 117, 116, 118, 119], [], [120, 121, 120], [79], [71, 122, 71, 123, 71, 124, 77, 124], [71, 125, 77, 125], [77, 125, 77, 126, 127, 126, 49], [125, 77, 125, 126, 128, 49, 129], [77, 125, 129], [71, 80], [71, 71, 130, 77, 131, 129, 71, 77, 127, 129, 71, 77, 128, 132, 49, 133, 133], [], [], [134, 135], [136, 134], [137, 138, 140], [141, 142, 143, 22, 145, 144], [147, 146], [140, 148], [150, 149, 136, 134], [], [152, 151, 94], [153], [], [154], [], [155], [156, 149, 158, 157, 94], [159, 109, 161, 160, 162], [163], [161, 90, 91], [164, 165, 166, 167, 168, 169, 170, 167, 171, 172], [173, 174, 175, 176, 177], [], [], [178], [], [104, 179], [180], [108], [], [181, 182], [183], [], [], [], [], [184, 185], [186], [], [], []]
theorem ldc1 : ((List.range' 60 60).map fun k => (Tryz.prog.funcs[k]?).elim [] Tryz.prog.leadsTo) = ld1 := by kernel_rfl
def ld2 : List (List Nat) := [[116, 187, 188, 189], [190, 191, 192, 193, 194, 195], [125, 196, 71, 196, 71, 71], [125, 126, 125, 197, 198, 71, 77, 71, 49, 126], [125, 77, 125, 126, 125, 198, 132, 49, 126], [196], [49, 80], [128, 49, 128], [199], [71, 128], [49, 128, 198, 49], [125, 125, 77, 128, 71, 49], [71, 71], [71, 196], [200, 201, 17], [202, 23, 203], [134], [149], [139], [141], [], [], [204], [], [205, 210, 211], [213, 215, 214], [], [], [], [], [], [216], [], [102, 217], [218, 219, 220, 142, 220, 145, 221, 145, 144, 222], [223], [], [224], [], [225], [], [], [], [101], [226, 226], [86], [86, 167], [223, 227], [223, 228], [223, 227, 228, 230, 229], [232, 233, 234, 234, 235], [237, 236, 238, 236], [239, 228], [240], [241, 242, 243], [247, 246], [248, 249], [250, 251, 254, 253, 252, 256, 254, 255, 252, 257, 258], [259, 260, 261, 10, 10, 10, 44, 10, 10, 10, 12], [262]]
theorem ldc2 : ((List.range' 120 60).map fun k => (Tryz.prog.funcs[k]?).elim [] Tryz.prog.leadsTo) = ld2 := by kernel_rfl
def ld3 : List (List Nat) := [[], [263], [265, 264], [], [], [], [266], [267], [], [], [], [188, 268, 269, 270, 271], [], [188, 192, 272, 190], [187, 12, 273], [187, 116], [80], [71, 71, 71, 80], [71, 125], [274], [44, 275, 260, 10, 276, 277, 273, 276, 12], [], [278, 279, 280, 281, 282, 280, 283], [284, 285], [213, 215, 286], [206, 207, 208, 209, 210, 211, 212, 207], [287, 288, 288], [289, 290], [291, 292], [206], [], [210, 293, 294, 293, 295], [296, 297], [], [286, 298], [], [], [299, 299, 299, 299, 300, 300, 301, 302, 303, 304, 305, 306, 307, 308, 309], [310, 161], [311], [312], [313], [], [317, 318, 319, 319, 319, 319, 319, 320, 321, 319, 322, 323], [], [], [226], [], [], [], [231], [324, 231], [234, 235], [223, 171], [325], [228], [229], [231], [171], [326, 233, 234, 327]]
theorem ldc3 : ((List.range' 180 60).map fun k => (Tryz.prog.funcs[k]?).elim [] Tryz.prog.leadsTo) = ld3 := by kernel_rfl
def ld4 : List (List Nat) := [[], [328, 329, 331, 330, 332, 86, 86, 333, 334], [96, 335, 336, 182, 337], [244, 161, 245], [328, 247, 153, 97], [338], [339, 339], [], [247, 339, 254, 340], [341, 247, 153, 97, 246], [], [], [], [340, 222], [136], [343, 342, 222], [], [], [], [346, 347, 261], [19, 348], [349], [], [], [350, 351, 352, 353, 354, 355, 356, 357, 358, 264, 264], [359, 112], [], [], [190, 192], [260, 10, 273, 10, 12, 200, 360], [261], [260, 10, 273, 10, 12, 200, 361], [362, 363], [19], [364, 365, 366, 367, 368, 369], [], [19, 370], [], [371, 222], [372], [281, 281], [], [373, 374, 280, 281, 374], [], [375, 376, 375, 378, 377], [61, 379, 380, 381], [384, 10, 12], [385, 385], [], [], [386], [], [387], [], [], [], [], [388], [389], [390, 391, 392, 102]]
theorem ldc4 : ((List.range' 240 60).map fun k => (Tryz.prog.funcs[k]?).elim [] Tryz.prog.leadsTo) = ld4 := by kernel_rfl
def ld5 : List (List Nat) := [[102], [393, 102, 395, 394], [396, 393, 102, 397, 397, 102, 398, 399, 400, 401, 394], [393, 102, 390], [393, 102, 102, 402, 102, 102, 403, 102, 405, 390, 404], [102, 153, 102, 390, 153, 102, 400, 102, 406, 97, 404], [393, 102, 400, 102, 400, 102, 407, 404], [393, 102], [393, 102, 408, 394], [393, 102, 409, 394], [101], [410], [411], [206, 314, 315, 209, 210, 316], [], [], [210, 211, 412, 314], [], [223], [413, 414], [413, 134, 136], [415, 227, 319], [416, 227, 319, 417], [227, 227, 417, 418, 319], [], [419, 420, 421, 422, 423, 231], [], [], [], [329, 329, 425, 424], [229], [], [328, 426], [220, 143, 427, 428], [429, 430, 431], [], [432, 222], [161, 160], [], [153], [433, 434], [391, 435, 102, 391, 436, 402, 102, 102, 344], [437], [345, 344], [58, 58, 438, 439], [], [], [], [440], [186, 119, 186, 118, 119, 441], [356], [442, 442], [443, 444], [445, 445, 445, 446], [], [356, 356, 356], [447, 447], [356, 356], [356, 356, 356, 356], []]
theorem ldc5 : ((List.range' 300 60).map fun k => (Tryz.prog.funcs[k]?).elim [] Tryz.prog.leadsTo) = ld5 := by kernel_rfl
def ld6 : List (List Nat) := [[448], [448], [449], [450, 451, 452, 453], [199, 454, 199, 454], [79, 199, 456, 455], [199, 454, 199, 71, 71, 77, 71, 71, 199, 71, 199, 71, 199, 77, 199, 71, 457, 80], [79, 199, 458, 455], [199, 71, 196], [71, 71, 71, 79, 459, 455, 79, 460, 455, 196, 196, 462, 461, 461, 463, 455, 464], [465], [44], [], [281, 281], [281, 280, 466, 222], [467, 468], [383, 383, 469, 469, 470, 383, 471, 472, 473, 105, 60, 105], [474, 475, 473, 41], [476], [474, 473, 468], [477], [382, 383], [383, 383, 383, 478], [104, 479], [58, 298, 481, 480, 482], [], [483, 483, 483], [484, 484, 484], [485, 485, 485], [], [], [], [], [153], [102], [58, 486, 487, 488, 102], [153, 397, 394, 153, 397, 394, 406, 407], [], [58, 58, 439], [102, 390, 390, 390, 390, 390, 390, 102], [402, 102, 398, 399, 394], [58, 58, 489, 102, 102, 487, 490, 102], [136], [491, 278], [488], [278, 492], [488, 488, 407, 488], [163, 163, 390, 102, 390], [58, 102, 391, 390, 36, 392, 493], [58, 415, 102, 494, 391, 495, 490, 486, 487, 496, 391, 496, 391, 102], [], [265, 497], [], [], [], [], [], [414, 413, 498], [494, 403, 403], [499, 236]]
theorem ldc6 : ((List.range' 360 60).map fun k => (Tryz.prog.funcs[k]?).elim [] Tryz.prog.leadsTo) = ld6 := by kernel_rfl
def ld7 : List (List Nat) := [[420], [500, 501, 502, 501, 502], [260, 10, 10, 10, 12], [47, 199, 50], [], [503], [426, 504], [], [], [], [505, 507, 506, 508, 505, 509, 509, 510, 510, 431, 505, 511], [], [512], [345, 384], [], [153], [518, 102, 102, 391], [519, 519, 520, 520], [447, 447], [521, 522], [], [523], [356, 356], [265], [], [446], [524, 524, 524], [], [525], [526, 526, 526, 526, 526, 526, 527], [528], [528], [528, 530, 529], [528, 530, 529], [531, 79], [80], [199], [79, 80, 532, 455], [199], [126, 199, 77, 197, 126], [199, 126], [], [], [196, 533, 126, 49, 199, 126], [196, 49, 196], [], [], [534, 474, 535], [], [], [536, 537, 380], [383, 469, 105], [536, 474], [], [538], [410], [], [], [], [262]]
theorem ldc7 : ((List.range' 420 60).map fun k => (Tryz.prog.funcs[k]?).elim [] Tryz.prog.leadsTo) = ld7 := by kernel_rfl
def ld8 : List (List Nat) := [[103], [539], [], [], [], [], [540], [102, 391], [163, 541], [518, 540, 542, 543, 544, 545, 546, 547, 548, 549], [102, 392], [278, 550], [141, 551, 551, 279, 279, 552], [17, 553, 102, 391, 495, 390, 390, 102], [346], [278, 551, 279], [], [554, 555, 556, 557, 558, 559, 287, 560, 561, 497, 497], [], [419], [531], [], [501, 562, 500, 421, 563, 562, 421, 501, 564, 501, 565, 562, 421, 501, 566], [], [567], [], [429, 568, 431], [102, 390, 391, 392, 569], [505, 570, 509, 505, 510], [102, 390, 391, 392], [569, 507, 506, 506, 571, 431, 568, 431, 572, 431, 429, 431], [403, 573, 480, 506], [513, 514, 515, 515, 517, 516], [209, 206, 574], [], [514], [574, 514], [514], [], [], [575, 520, 520], [141, 576, 577], [578, 578], [], [356], [579, 580], [], [526, 526, 526, 526, 526, 526], [], [], [581], [], [199, 49, 199, 126], [], [], [538, 38, 38], [61, 473, 468, 582, 583, 586], [383], [], [587]]
theorem ldc8 : ((List.range' 480 60).map fun k => (Tryz.prog.funcs[k]?).elim [] Tryz.prog.leadsTo) = ld8 := by kernel_rfl
def ld9 : List (List Nat) := [[], [102, 390], [591, 591, 590], [486], [], [], [], [], [], [], [592], [], [521], [593, 17, 272], [287], [594, 594], [443, 444], [595, 595, 595, 596], [], [287, 287, 287], [287, 287], [287, 287, 287, 287], [], [500, 562, 421, 597, 501, 562, 421], [501], [562, 421, 564, 501, 562, 421, 501, 421, 501, 562, 421, 501, 562, 421, 501, 598, 501], [390, 59, 501, 15, 501, 392, 59, 501, 501, 501, 501, 562, 421, 599, 501, 501, 501, 598, 501, 501], [], [600, 571, 429], [286], [], [], [600, 429], [601, 602, 600], [210], [603, 603, 603], [604], [576, 576, 605, 606], [], [], [], [42], [265, 607], [438, 438, 585, 584], [], [438], [], [141, 141, 495, 588, 589], [278, 375], [383, 478, 484, 222], [], [], [608, 608, 608, 608, 608, 608, 608], [609], [287, 287], [596], [610, 610, 610], [531], [501, 421], []]
theorem ldc9 : ((List.range' 540 60).map fun k => (Tryz.prog.funcs[k]?).elim [] Tryz.prog.leadsTo) = ld9 := by kernel_rfl
def ld10 : List (List Nat) := [[], [611, 612, 279, 279], [141, 550, 495], [], [385, 385], [495, 495, 604], [588, 588, 589, 589, 585], [613, 614, 615, 616, 617, 618, 619, 620, 607, 607], [], [267], [287], [], [], [], [621, 621], [443, 444], [622, 622, 622, 623], [], [], [], [], [], [623], [624, 624, 624], [], [], [], [], [], [], [], [], [], [], [], [], [], [], [], [], [], [], [], [], [], [], [], [], [], [], [], [], [], [], [], [], [], [], [], []]
theorem ldc10 : ((List.range' 600 60).map fun k => (Tryz.prog.funcs[k]?).elim [] Tryz.prog.leadsTo) = ld10 := by kernel_rfl
def ld11 : List (List Nat) := [[], [529, 529]]
theorem ldc11 : ((List.range' 660 2).map fun k => (Tryz.prog.funcs[k]?).elim [] Tryz.prog.leadsTo) = ld11 := by kernel_rfl
def ldTab : List (List Nat) := ld0 ++ ld1 ++ ld2 ++ ld3 ++ ld4 ++ ld5 ++ ld6 ++ ld7 ++ ld8 ++ ld9 ++ ld10 ++ ld11
theorem ldAll : ((List.range 662).map fun k => (Tryz.prog.funcs[k]?).elim [] Tryz.prog.leadsTo) = ldTab := by
  rw [cutsF]
  simp only [List.map_append, ldc0, ldc1, ldc2, ldc3, ldc4, ldc5, ldc6, ldc7, ldc8, ldc9, ldc10, ldc11, ldTab]
def ctab (tab : List (List Nat)) : Nat → List Nat → List Nat → List Nat
  | 0, _, seen => seen.reverse
  | _ + 1, [], seen => seen.reverse
  | n + 1, f :: todo, seen => if seen.contains f then ctab tab n todo seen else ctab tab n (tab.getD f [] ++ todo) (f :: seen)
theorem closureVia_tab (P : Program) (tab : List (List Nat)) (h : ∀ f, (P.funcs[f]?).elim [] P.leadsTo = tab.getD f []) : ∀ n todo seen, P.closureVia n todo seen = ctab tab n todo seen
  | 0, _, _ => by simp [Program.closureVia, ctab]
  | n + 1, [], _ => by simp [Program.closureVia, ctab]
  | n + 1, f :: todo, seen => by
    rw [Program.closureVia, ctab, h f, closureVia_tab P tab h n, closureVia_tab P tab h n]
theorem ldLen : ldTab.length = 662 := by decide +kernel
theorem ld_tab (f : Nat) : (Tryz.prog.funcs[f]?).elim [] Tryz.prog.leadsTo = ldTab.getD f [] := by
  by_cases hf : f < 662
  · have h := congrArg (fun l => l.getD f []) ldAll
    simp only [List.getD_eq_getElem?_getD, List.getElem?_map, List.getElem?_range hf, Option.map_some, Option.getD_some] at h
    exact h
  · rw [Array.getElem?_eq_none (by rw [sizeF]; omega), List.getD_eq_getElem?_getD, List.getElem?_eq_none (by rw [ldLen]; omega)]
    rfl
theorem ld_fuel : (Tryz.prog.funcs.toList.map fun g => (Tryz.prog.leadsTo g).length + 1).sum = 2109 := by
  have h := congrArg (fun l => (l.map fun x => x.length + 1).sum) ldAll
  have h2 : (Tryz.prog.funcs.toList.map fun g => (Tryz.prog.leadsTo g).length + 1) = ((List.range Tryz.prog.funcs.size).map fun k => (Tryz.prog.funcs[k]?).elim [] Tryz.prog.leadsTo).map fun x => x.length + 1 := by
    rw [← range_map, List.map_map]
    rfl
  rw [h2, sizeF]
  exact h.trans (by decide +kernel)
def cl0 : List Nat := [3, 5, 4, 6, 13, 22, 14, 23, 37, 38, 60, 104, 105, 179, 262, 39, 40, 41, 61, 62, 106, 180, 107, 108, 110, 183, 109, 181, 263, 182, 265, 359, 112, 264, 350, 356, 447, 351, 442, 352, 443, 444, 353, 445, 446, 524, 354, 355, 357, 358, 8, 15, 24, 42, 63, 64, 111, 113, 65, 66]
def cl1 : List Nat := [114, 115, 184, 185, 9, 16, 25, 17, 27, 26, 28, 30, 43, 29, 32, 46, 69, 44, 67, 45, 68, 116, 186, 266, 117, 118, 119, 31, 18, 11, 20, 34, 47, 70, 120, 187, 267, 188, 189, 121, 190, 191, 268, 192, 269, 260, 19, 33, 348, 440, 10, 273, 12, 200, 275, 276, 370, 465, 277, 360]
def cl2 : List Nat := [448, 525, 579, 580, 270, 261, 349, 441, 523, 271, 361, 193, 272, 362, 449, 526, 527, 363, 450, 528, 451, 452, 530, 581, 529, 453, 194, 195, 48, 71, 79, 72, 122, 125, 196, 80, 123, 126, 49, 197, 198, 77, 124, 132, 73, 74, 127, 128, 199, 274, 364, 454, 531, 365, 456, 455, 366, 457, 532, 367]
def cl3 : List Nat := [458, 368, 369, 459, 460, 462, 461, 463, 533, 464, 75, 129, 76, 78, 130, 131, 133, 50, 35, 51, 81, 134, 201, 135, 202, 278, 371, 222, 279, 372, 280, 281, 282, 373, 374, 466, 283, 203, 284, 375, 467, 534, 474, 538, 535, 468, 376, 383, 479, 469, 470, 536, 473, 582, 607, 613, 614, 621, 615, 616]
def cl4 : List Nat := [622, 623, 624, 617, 618, 619, 620, 583, 438, 585, 584, 586, 537, 380, 477, 471, 472, 378, 476, 377, 475, 410, 285, 379, 381, 382, 478, 52, 82, 136, 83, 137, 149, 138, 139, 141, 140, 84, 142, 204, 213, 215, 286, 384, 58, 101, 102, 298, 389, 481, 539, 587, 495, 551, 588, 589, 484, 480, 103, 178]
def cl5 : List Nat := [259, 346, 347, 482, 143, 145, 214, 144, 205, 206, 287, 385, 288, 207, 289, 290, 386, 483, 208, 291, 292, 387, 209, 210, 211, 293, 294, 295, 212, 296, 297, 388, 485, 85, 147, 146, 53, 86, 148, 87, 150, 54, 88, 55, 89, 152, 151, 216, 94, 155, 223, 317, 318, 319, 413, 414, 320, 321, 415, 227]
def cl6 : List Nat := [322, 416, 417, 498, 323, 418, 494, 403, 491, 550, 592, 608, 90, 153, 217, 299, 390, 391, 392, 300, 301, 393, 395, 486, 540, 487, 488, 163, 541, 394, 302, 396, 397, 406, 407, 398, 439, 521, 576, 604, 577, 605, 606, 522, 578, 399, 400, 402, 401, 489, 518, 542, 591, 590, 543, 544, 545, 546, 547, 548]
def cl7 : List Nat := [549, 490, 303, 304, 405, 492, 552, 404, 305, 97, 306, 307, 308, 408, 36, 59, 493, 553, 593, 609, 309, 409, 496, 91, 92, 154, 218, 310, 161, 219, 311, 220, 312, 411, 497, 554, 555, 594, 556, 557, 595, 596, 610, 558, 559, 560, 561, 221, 313, 314, 315, 316, 412, 56, 93, 95, 156, 158, 157, 224]
def cl8 : List Nat := [96, 159, 225, 160, 162, 98, 57, 99, 164, 226, 165, 166, 167, 168, 228, 169, 230, 231, 324, 229, 170, 232, 234, 325, 419, 499, 236, 420, 421, 500, 501, 502, 562, 563, 597, 564, 565, 598, 566, 599, 422, 423, 235, 233, 171, 237, 238, 172, 239, 326, 327, 100, 173, 240, 174, 241, 328, 329, 425, 503]
def cl9 : List Nat := [424, 331, 330, 332, 426, 504, 567, 333, 427, 428, 334, 429, 430, 505, 507, 569, 506, 568, 600, 571, 431, 508, 570, 509, 510, 572, 511, 573, 601, 611, 612, 602, 242, 335, 336, 432, 512, 513, 574, 514, 515, 517, 516, 337, 243, 244, 247, 245, 338, 175, 246, 339, 176, 248, 254, 340, 433, 345, 434, 249]
def cl10 : List Nat := [341, 435, 436, 344, 177, 250, 251, 253, 252, 256, 255, 343, 342, 437, 519, 520, 575, 603, 257, 258, 21, 7]
theorem closureIs : Tryz.prog.closure 3 = cl0 ++ cl1 ++ cl2 ++ cl3 ++ cl4 ++ cl5 ++ cl6 ++ cl7 ++ cl8 ++ cl9 ++ cl10 := by
  unfold Program.closure
  rw [closureVia_tab Tryz.prog ldTab ld_tab, ld_fuel]
  decide +kernel
end Go.Proofs.YtchpbdodlbghaaaGreatDoor
namespace Go.Proofs.YtchpbdodlbghaaaGreatDoor
open Go Go.Proofs
set_option maxRecDepth 100000
theorem ip0 : (cl0.filterMap fun g => (Tryz.prog.funcs[g]?).bind fun fn => if fn.ours || fn.body.isNone || fn.name == "runtime.NumGoroutine" then some fn.name else none) = [] := by kernel_rfl
theorem ip1 : (cl1.filterMap fun g => (Tryz.prog.funcs[g]?).bind fun fn => if fn.ours || fn.body.isNone || fn.name == "runtime.NumGoroutine" then some fn.name else none) = ["internal/bytealg.IndexByteString", "internal/bytealg.IndexString", "internal/abi.NoEscape", "internal/bytealg.MakeNoZero"] := by kernel_rfl
theorem ip2 : (cl2.filterMap fun g => (Tryz.prog.funcs[g]?).bind fun fn => if fn.ours || fn.body.isNone || fn.name == "runtime.NumGoroutine" then some fn.name else none) = [] := by kernel_rfl
theorem ip3 : (cl3.filterMap fun g => (Tryz.prog.funcs[g]?).bind fun fn => if fn.ours || fn.body.isNone || fn.name == "runtime.NumGoroutine" then some fn.name else none) = [] := by kernel_rfl
theorem ip4 : (cl4.filterMap fun g => (Tryz.prog.funcs[g]?).bind fun fn => if fn.ours || fn.body.isNone || fn.name == "runtime.NumGoroutine" then some fn.name else none) = ["maps.clone"] := by kernel_rfl
theorem ip5 : (cl5.filterMap fun g => (Tryz.prog.funcs[g]?).bind fun fn => if fn.ours || fn.body.isNone || fn.name == "runtime.NumGoroutine" then some fn.name else none) = ["internal/bytealg.CountString", "slices.overlaps[string]", "slices.overlaps[int]", "slices.overlaps[*umlaut/btree.node]"] := by kernel_rfl
theorem ip6 : (cl6.filterMap fun g => (Tryz.prog.funcs[g]?).bind fun fn => if fn.ours || fn.body.isNone || fn.name == "runtime.NumGoroutine" then some fn.name else none) = [] := by kernel_rfl
theorem ip7 : (cl7.filterMap fun g => (Tryz.prog.funcs[g]?).bind fun fn => if fn.ours || fn.body.isNone || fn.name == "runtime.NumGoroutine" then some fn.name else none) = [] := by kernel_rfl
theorem ip8 : (cl8.filterMap fun g => (Tryz.prog.funcs[g]?).bind fun fn => if fn.ours || fn.body.isNone || fn.name == "runtime.NumGoroutine" then some fn.name else none) = [] := by kernel_rfl
theorem ip9 : (cl9.filterMap fun g => (Tryz.prog.funcs[g]?).bind fun fn => if fn.ours || fn.body.isNone || fn.name == "runtime.NumGoroutine" then some fn.name else none) = [] := by kernel_rfl
theorem ip10 : (cl10.filterMap fun g => (Tryz.prog.funcs[g]?).bind fun fn => if fn.ours || fn.body.isNone || fn.name == "runtime.NumGoroutine" then some fn.name else none) = [] := by kernel_rfl
theorem inPlaceIs : Tryz.prog.inPlace 3 = ["internal/bytealg.IndexByteString", "internal/bytealg.IndexString", "internal/abi.NoEscape", "internal/bytealg.MakeNoZero", "maps.clone", "internal/bytealg.CountString", "slices.overlaps[string]", "slices.overlaps[int]", "slices.overlaps[*umlaut/btree.node]"] := by
  unfold Program.inPlace
  rw [closureIs]
  simp only [List.filterMap_append, ip0, ip1, ip2, ip3, ip4, ip5, ip6, ip7, ip8, ip9, ip10]
  rfl
theorem unfollowedIs : Tryz.prog.unfollowed 3 = true := by
  unfold Program.unfollowed
  rw [closureIs]
  exact List.any_eq_true.2 ⟨23, by decide +kernel, by kernel_rfl⟩
theorem recursesIs : Tryz.prog.recurses 3 = true := by
  unfold Program.recurses
  rw [unfollowedIs, Bool.true_or]
theorem gn0 : (cl0.flatMap fun g => ((Tryz.prog.funcs[g]?).bind (·.body)).elim [] Code.globalsNamed) = [0] := by kernel_rfl
theorem er0 : (cl0.filterMap fun g => (Tryz.prog.funcs[g]?).bind fun fn => if fn.body.isNone then entryReads.lookup fn.name else none) = [] := by kernel_rfl
theorem gn1 : (cl1.flatMap fun g => ((Tryz.prog.funcs[g]?).bind (·.body)).elim [] Code.globalsNamed) = [4, 5, 1, 2] := by kernel_rfl
theorem er1 : (cl1.filterMap fun g => (Tryz.prog.funcs[g]?).bind fun fn => if fn.body.isNone then entryReads.lookup fn.name else none) = ["internal/bytealg.MaxLen"] := by kernel_rfl
theorem gn2 : (cl2.flatMap fun g => ((Tryz.prog.funcs[g]?).bind (·.body)).elim [] Code.globalsNamed) = [6, 3, 3, 3, 7, 8] := by kernel_rfl
theorem er2 : (cl2.filterMap fun g => (Tryz.prog.funcs[g]?).bind fun fn => if fn.body.isNone then entryReads.lookup fn.name else none) = [] := by kernel_rfl
theorem gn3 : (cl3.flatMap fun g => ((Tryz.prog.funcs[g]?).bind (·.body)).elim [] Code.globalsNamed) = [] := by kernel_rfl
theorem er3 : (cl3.filterMap fun g => (Tryz.prog.funcs[g]?).bind fun fn => if fn.body.isNone then entryReads.lookup fn.name else none) = [] := by kernel_rfl
theorem gn4 : (cl4.flatMap fun g => ((Tryz.prog.funcs[g]?).bind (·.body)).elim [] Code.globalsNamed) = [] := by kernel_rfl
theorem er4 : (cl4.filterMap fun g => (Tryz.prog.funcs[g]?).bind fun fn => if fn.body.isNone then entryReads.lookup fn.name else none) = [] := by kernel_rfl
theorem gn5 : (cl5.flatMap fun g => ((Tryz.prog.funcs[g]?).bind (·.body)).elim [] Code.globalsNamed) = [] := by kernel_rfl
theorem er5 : (cl5.filterMap fun g => (Tryz.prog.funcs[g]?).bind fun fn => if fn.body.isNone then entryReads.lookup fn.name else none) = [] := by kernel_rfl
theorem gn6 : (cl6.flatMap fun g => ((Tryz.prog.funcs[g]?).bind (·.body)).elim [] Code.globalsNamed) = [1, 2] := by kernel_rfl
theorem er6 : (cl6.filterMap fun g => (Tryz.prog.funcs[g]?).bind fun fn => if fn.body.isNone then entryReads.lookup fn.name else none) = [] := by kernel_rfl
theorem gn7 : (cl7.flatMap fun g => ((Tryz.prog.funcs[g]?).bind (·.body)).elim [] Code.globalsNamed) = [] := by kernel_rfl
theorem er7 : (cl7.filterMap fun g => (Tryz.prog.funcs[g]?).bind fun fn => if fn.body.isNone then entryReads.lookup fn.name else none) = [] := by kernel_rfl
theorem gn8 : (cl8.flatMap fun g => ((Tryz.prog.funcs[g]?).bind (·.body)).elim [] Code.globalsNamed) = [] := by kernel_rfl
theorem er8 : (cl8.filterMap fun g => (Tryz.prog.funcs[g]?).bind fun fn => if fn.body.isNone then entryReads.lookup fn.name else none) = [] := by kernel_rfl
theorem gn9 : (cl9.flatMap fun g => ((Tryz.prog.funcs[g]?).bind (·.body)).elim [] Code.globalsNamed) = [] := by kernel_rfl
theorem er9 : (cl9.filterMap fun g => (Tryz.prog.funcs[g]?).bind fun fn => if fn.body.isNone then entryReads.lookup fn.name else none) = [] := by kernel_rfl
theorem gn10 : (cl10.flatMap fun g => ((Tryz.prog.funcs[g]?).bind (·.body)).elim [] Code.globalsNamed) = [] := by kernel_rfl
theorem er10 : (cl10.filterMap fun g => (Tryz.prog.funcs[g]?).bind fun fn => if fn.body.isNone then entryReads.lookup fn.name else none) = [] := by kernel_rfl
theorem namedIs (L : List String) (h : (L == (((([0] ++ [4, 5, 1, 2] ++ [6, 3, 3, 3, 7, 8] ++ [] ++ [] ++ [] ++ [1, 2] ++ [] ++ [] ++ [] ++ [] : List Nat).eraseDups).filterMap fun g : Nat => (Tryz.prog.globals[g]?).map fun x : Global => x.name) ++ (([] : List String) ++ (["internal/bytealg.MaxLen"] : List String) ++ ([] : List String) ++ ([] : List String) ++ ([] : List String) ++ ([] : List String) ++ ([] : List String) ++ ([] : List String) ++ ([] : List String) ++ ([] : List String) ++ ([] : List String))).eraseDups) = true) : (L == Tryz.prog.varsNamed 3) = true := by
  unfold Program.varsNamed
  rw [closureIs]
  simp only [List.filterMap_append, List.flatMap_append, gn0, gn1, gn2, gn3, gn4, gn5, gn6, gn7, gn8, gn9, gn10, er0, er1, er2, er3, er4, er5, er6, er7, er8, er9, er10]
  exact h
theorem looksIs : Tryz.prog.looks [] = true := by
  unfold Program.looks
  exact List.any_eq_true.2 ⟨311, List.mem_range.2 (by rw [sizeF]; decide), by kernel_rfl⟩
end Go.Proofs.YtchpbdodlbghaaaGreatDoor
