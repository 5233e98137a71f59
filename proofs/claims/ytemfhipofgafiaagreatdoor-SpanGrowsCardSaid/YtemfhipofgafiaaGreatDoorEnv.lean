/- THE FUNCTIONS AS THE EVALUATOR TAKES THEM: each one's text, and how its regions that draw their order fit. -/
import Derived.Test.YtemfhipofgafiaaGreatDoorEvB
import Derived.Test.YtemfhipofgafiaaGreatDoorBase
import Derived.Test.YtemfhipofgafiaaGreatDoorProg
set_option linter.unusedVariables false
set_option linter.unusedSimpArgs false
namespace Go.Proofs.YtemfhipofgafiaaGreatDoor.Ev
open Go Go.RowKit

def look : List (Nat × RT) → Nat → RT
  | [], _ => ⟨[], [], false, none⟩
  | (i, p) :: l, j => match Nat.beq i j with
    | true => p
    | false => look l j
noncomputable def bodyOf (f : Func) : Code := f.body.getD .skip

noncomputable def e15 : FnE := ⟨Tryz.f15, bodyOf Tryz.f15, Tryz.f15.ntmps, look []⟩
noncomputable def e17 : FnE := ⟨Tryz.f17, bodyOf Tryz.f17, Tryz.f17.ntmps, look []⟩
noncomputable def e20 : FnE := ⟨Tryz.f20, bodyOf Tryz.f20, Tryz.f20.ntmps, look []⟩
noncomputable def e21 : FnE := ⟨Tryz.f21, bodyOf Tryz.f21, Tryz.f21.ntmps, look [(3, ⟨[0, 1, 2, 3, 4, 5, 6, 7, 8, 9, 10, 11, 12], [], false, some [13, 14, 15]⟩)]⟩
noncomputable def e22 : FnE := ⟨Tryz.f22, bodyOf Tryz.f22, Tryz.f22.ntmps, look [(3, ⟨[0, 1, 2, 3, 4, 5, 6, 7, 8, 9], [10], false, some [10, 11, 12]⟩)]⟩
noncomputable def e23 : FnE := ⟨Tryz.f23, bodyOf Tryz.f23, Tryz.f23.ntmps, look [(5, ⟨[0, 1, 2, 3, 4, 5, 6, 7, 8, 9, 10, 11, 12, 13, 14, 15, 16, 17, 18, 19, 20, 21, 22, 23, 24, 25, 26, 27, 28, 29, 30, 31], [], false, some []⟩)]⟩
noncomputable def e24 : FnE := ⟨Tryz.f24, bodyOf Tryz.f24, Tryz.f24.ntmps, look []⟩
noncomputable def e25 : FnE := ⟨Tryz.f25, bodyOf Tryz.f25, Tryz.f25.ntmps, look []⟩
noncomputable def e26 : FnE := ⟨Tryz.f26, bodyOf Tryz.f26, Tryz.f26.ntmps, look []⟩
noncomputable def e32 : FnE := ⟨Tryz.f32, bodyOf Tryz.f32, Tryz.f32.ntmps, look []⟩
noncomputable def e33 : FnE := ⟨Tryz.f33, bodyOf Tryz.f33, Tryz.f33.ntmps, look []⟩
noncomputable def e38 : FnE := ⟨Tryz.f38, bodyOf Tryz.f38, Tryz.f38.ntmps, look [(6, ⟨[0, 1, 2, 3, 4, 5, 6, 7, 8], [], false, some []⟩)]⟩
noncomputable def e39 : FnE := ⟨Tryz.f39, bodyOf Tryz.f39, Tryz.f39.ntmps, look []⟩
noncomputable def e40 : FnE := ⟨Tryz.f40, bodyOf Tryz.f40, Tryz.f40.ntmps, look []⟩
noncomputable def e41 : FnE := ⟨Tryz.f41, bodyOf Tryz.f41, Tryz.f41.ntmps, look [(6, ⟨[0, 1, 2, 3, 4, 5, 6, 7, 8, 9, 10, 11], [12], false, some [12, 13, 14]⟩)]⟩
noncomputable def e43 : FnE := ⟨Tryz.f43, bodyOf Tryz.f43, Tryz.f43.ntmps, look []⟩
noncomputable def e44 : FnE := ⟨Tryz.f44, bodyOf Tryz.f44, Tryz.f44.ntmps, look [(7, ⟨[0, 1, 2, 3, 4, 5, 6, 7, 8], [9], false, some [9, 10, 11]⟩)]⟩
noncomputable def e45 : FnE := ⟨Tryz.f45, bodyOf Tryz.f45, Tryz.f45.ntmps, look []⟩
noncomputable def e46 : FnE := ⟨Tryz.f46, bodyOf Tryz.f46, Tryz.f46.ntmps, look []⟩
noncomputable def e47 : FnE := ⟨Tryz.f47, bodyOf Tryz.f47, Tryz.f47.ntmps, look [(2, ⟨[0, 1, 2, 3], [], false, some []⟩)]⟩
noncomputable def e48 : FnE := ⟨Tryz.f48, bodyOf Tryz.f48, Tryz.f48.ntmps, look []⟩
noncomputable def e49 : FnE := ⟨Tryz.f49, bodyOf Tryz.f49, Tryz.f49.ntmps, look []⟩
noncomputable def e50 : FnE := ⟨Tryz.f50, bodyOf Tryz.f50, Tryz.f50.ntmps, look []⟩
noncomputable def e52 : FnE := ⟨Tryz.f52, bodyOf Tryz.f52, Tryz.f52.ntmps, look [(5, ⟨[0, 1, 2, 3], [9], false, none⟩)]⟩
noncomputable def e54 : FnE := ⟨Tryz.f54, bodyOf Tryz.f54, Tryz.f54.ntmps, look []⟩
noncomputable def e56 : FnE := ⟨Tryz.f56, bodyOf Tryz.f56, Tryz.f56.ntmps, look [(2, ⟨[0, 1, 2, 3, 4, 5], [], false, some []⟩), (4, ⟨[0, 1, 2, 3, 4, 5, 6], [], false, some []⟩)]⟩
noncomputable def e58 : FnE := ⟨Tryz.f58, bodyOf Tryz.f58, Tryz.f58.ntmps, look []⟩
noncomputable def e59 : FnE := ⟨Tryz.f59, bodyOf Tryz.f59, Tryz.f59.ntmps, look []⟩
noncomputable def e60 : FnE := ⟨Tryz.f60, bodyOf Tryz.f60, Tryz.f60.ntmps, look []⟩
noncomputable def e61 : FnE := ⟨Tryz.f61, bodyOf Tryz.f61, Tryz.f61.ntmps, look []⟩
noncomputable def e62 : FnE := ⟨Tryz.f62, bodyOf Tryz.f62, Tryz.f62.ntmps, look []⟩
noncomputable def e64 : FnE := ⟨Tryz.f64, bodyOf Tryz.f64, Tryz.f64.ntmps, look []⟩
noncomputable def e68 : FnE := ⟨Tryz.f68, bodyOf Tryz.f68, Tryz.f68.ntmps, look []⟩
noncomputable def e69 : FnE := ⟨Tryz.f69, bodyOf Tryz.f69, Tryz.f69.ntmps, look [(5, ⟨[0, 1, 2, 5, 6, 7, 8, 9], [3, 4, 10], true, none⟩)]⟩
noncomputable def e70 : FnE := ⟨Tryz.f70, bodyOf Tryz.f70, Tryz.f70.ntmps, look [(1, ⟨[0, 1, 2, 3, 4, 5, 6, 7, 8], [], false, some [9, 10, 11]⟩)]⟩
noncomputable def e71 : FnE := ⟨Tryz.f71, bodyOf Tryz.f71, Tryz.f71.ntmps, look []⟩
noncomputable def e72 : FnE := ⟨Tryz.f72, bodyOf Tryz.f72, Tryz.f72.ntmps, look []⟩
noncomputable def e73 : FnE := ⟨Tryz.f73, bodyOf Tryz.f73, Tryz.f73.ntmps, look [(3, ⟨[0, 1, 2, 3, 4, 5, 6, 7, 8, 9], [10], false, some [10, 11, 12]⟩)]⟩
noncomputable def e75 : FnE := ⟨Tryz.f75, bodyOf Tryz.f75, Tryz.f75.ntmps, look []⟩
noncomputable def e76 : FnE := ⟨Tryz.f76, bodyOf Tryz.f76, Tryz.f76.ntmps, look [(1, ⟨[0, 1, 2, 3, 4, 5, 6, 7, 8, 9, 10, 11], [12], false, some [12, 13, 14]⟩), (2, ⟨[0, 1, 2, 3, 4, 5, 6, 7, 8], [], false, some [9]⟩)]⟩
noncomputable def e77 : FnE := ⟨Tryz.f77, bodyOf Tryz.f77, Tryz.f77.ntmps, look []⟩
noncomputable def e78 : FnE := ⟨Tryz.f78, bodyOf Tryz.f78, Tryz.f78.ntmps, look []⟩
noncomputable def e79 : FnE := ⟨Tryz.f79, bodyOf Tryz.f79, Tryz.f79.ntmps, look [(4, ⟨[0, 1, 2, 3, 4, 5, 6, 7, 8, 9, 10], [11], false, some [11, 12, 13]⟩)]⟩
noncomputable def e80 : FnE := ⟨Tryz.f80, bodyOf Tryz.f80, Tryz.f80.ntmps, look []⟩
noncomputable def e81 : FnE := ⟨Tryz.f81, bodyOf Tryz.f81, Tryz.f81.ntmps, look [(4, ⟨[0, 1, 2, 3, 4, 5, 6, 7], [], false, some []⟩)]⟩
noncomputable def e89 : FnE := ⟨Tryz.f89, bodyOf Tryz.f89, Tryz.f89.ntmps, look []⟩
noncomputable def e95 : FnE := ⟨Tryz.f95, bodyOf Tryz.f95, Tryz.f95.ntmps, look []⟩
noncomputable def e96 : FnE := ⟨Tryz.f96, bodyOf Tryz.f96, Tryz.f96.ntmps, look []⟩
noncomputable def e97 : FnE := ⟨Tryz.f97, bodyOf Tryz.f97, Tryz.f97.ntmps, look []⟩
noncomputable def e99 : FnE := ⟨Tryz.f99, bodyOf Tryz.f99, Tryz.f99.ntmps, look []⟩
noncomputable def e100 : FnE := ⟨Tryz.f100, bodyOf Tryz.f100, Tryz.f100.ntmps, look []⟩
noncomputable def e102 : FnE := ⟨Tryz.f102, bodyOf Tryz.f102, Tryz.f102.ntmps, look []⟩
noncomputable def e103 : FnE := ⟨Tryz.f103, bodyOf Tryz.f103, Tryz.f103.ntmps, look []⟩
noncomputable def e104 : FnE := ⟨Tryz.f104, bodyOf Tryz.f104, Tryz.f104.ntmps, look []⟩
noncomputable def e105 : FnE := ⟨Tryz.f105, bodyOf Tryz.f105, Tryz.f105.ntmps, look []⟩
noncomputable def e108 : FnE := ⟨Tryz.f108, bodyOf Tryz.f108, Tryz.f108.ntmps, look []⟩
noncomputable def e109 : FnE := ⟨Tryz.f109, bodyOf Tryz.f109, Tryz.f109.ntmps, look [(1, ⟨[0, 1, 2, 3, 4, 5, 6, 7, 8, 9], [], false, some [10, 11, 12]⟩)]⟩
noncomputable def e110 : FnE := ⟨Tryz.f110, bodyOf Tryz.f110, Tryz.f110.ntmps, look []⟩
noncomputable def e111 : FnE := ⟨Tryz.f111, bodyOf Tryz.f111, Tryz.f111.ntmps, look []⟩
noncomputable def e117 : FnE := ⟨Tryz.f117, bodyOf Tryz.f117, Tryz.f117.ntmps, look []⟩
noncomputable def e118 : FnE := ⟨Tryz.f118, bodyOf Tryz.f118, Tryz.f118.ntmps, look []⟩
noncomputable def e119 : FnE := ⟨Tryz.f119, bodyOf Tryz.f119, Tryz.f119.ntmps, look []⟩
noncomputable def e120 : FnE := ⟨Tryz.f120, bodyOf Tryz.f120, Tryz.f120.ntmps, look [(3, ⟨[0, 1, 2, 3, 4, 5, 6], [], false, some []⟩)]⟩
noncomputable def e121 : FnE := ⟨Tryz.f121, bodyOf Tryz.f121, Tryz.f121.ntmps, look [(6, ⟨[0, 1, 2, 3, 4, 5, 6, 7], [], false, some []⟩)]⟩
noncomputable def e122 : FnE := ⟨Tryz.f122, bodyOf Tryz.f122, Tryz.f122.ntmps, look []⟩
noncomputable def e123 : FnE := ⟨Tryz.f123, bodyOf Tryz.f123, Tryz.f123.ntmps, look []⟩
noncomputable def e124 : FnE := ⟨Tryz.f124, bodyOf Tryz.f124, Tryz.f124.ntmps, look []⟩
noncomputable def e126 : FnE := ⟨Tryz.f126, bodyOf Tryz.f126, Tryz.f126.ntmps, look []⟩
noncomputable def e129 : FnE := ⟨Tryz.f129, bodyOf Tryz.f129, Tryz.f129.ntmps, look []⟩
noncomputable def e130 : FnE := ⟨Tryz.f130, bodyOf Tryz.f130, Tryz.f130.ntmps, look []⟩
noncomputable def e134 : FnE := ⟨Tryz.f134, bodyOf Tryz.f134, Tryz.f134.ntmps, look []⟩
noncomputable def e135 : FnE := ⟨Tryz.f135, bodyOf Tryz.f135, Tryz.f135.ntmps, look []⟩
noncomputable def e136 : FnE := ⟨Tryz.f136, bodyOf Tryz.f136, Tryz.f136.ntmps, look []⟩
noncomputable def e137 : FnE := ⟨Tryz.f137, bodyOf Tryz.f137, Tryz.f137.ntmps, look []⟩
noncomputable def e138 : FnE := ⟨Tryz.f138, bodyOf Tryz.f138, Tryz.f138.ntmps, look []⟩
noncomputable def e139 : FnE := ⟨Tryz.f139, bodyOf Tryz.f139, Tryz.f139.ntmps, look []⟩
noncomputable def e140 : FnE := ⟨Tryz.f140, bodyOf Tryz.f140, Tryz.f140.ntmps, look []⟩
noncomputable def e141 : FnE := ⟨Tryz.f141, bodyOf Tryz.f141, Tryz.f141.ntmps, look []⟩
noncomputable def e142 : FnE := ⟨Tryz.f142, bodyOf Tryz.f142, Tryz.f142.ntmps, look []⟩
noncomputable def e143 : FnE := ⟨Tryz.f143, bodyOf Tryz.f143, Tryz.f143.ntmps, look []⟩
noncomputable def e144 : FnE := ⟨Tryz.f144, bodyOf Tryz.f144, Tryz.f144.ntmps, look []⟩
noncomputable def e145 : FnE := ⟨Tryz.f145, bodyOf Tryz.f145, Tryz.f145.ntmps, look []⟩
noncomputable def e146 : FnE := ⟨Tryz.f146, bodyOf Tryz.f146, Tryz.f146.ntmps, look []⟩
noncomputable def e147 : FnE := ⟨Tryz.f147, bodyOf Tryz.f147, Tryz.f147.ntmps, look []⟩
noncomputable def e148 : FnE := ⟨Tryz.f148, bodyOf Tryz.f148, Tryz.f148.ntmps, look []⟩
noncomputable def e149 : FnE := ⟨Tryz.f149, bodyOf Tryz.f149, Tryz.f149.ntmps, look []⟩
noncomputable def e150 : FnE := ⟨Tryz.f150, bodyOf Tryz.f150, Tryz.f150.ntmps, look []⟩
noncomputable def e151 : FnE := ⟨Tryz.f151, bodyOf Tryz.f151, Tryz.f151.ntmps, look [(3, ⟨[0, 1, 2, 3, 4, 5, 6], [], false, some [7, 8, 9, 10]⟩)]⟩
noncomputable def e152 : FnE := ⟨Tryz.f152, bodyOf Tryz.f152, Tryz.f152.ntmps, look [(12, ⟨[0, 1, 2, 3, 4, 5, 6, 7, 8, 9], [], false, some [10]⟩), (14, ⟨[], [], false, none⟩)]⟩
noncomputable def e153 : FnE := ⟨Tryz.f153, bodyOf Tryz.f153, Tryz.f153.ntmps, look []⟩
noncomputable def e154 : FnE := ⟨Tryz.f154, bodyOf Tryz.f154, Tryz.f154.ntmps, look []⟩
noncomputable def e155 : FnE := ⟨Tryz.f155, bodyOf Tryz.f155, Tryz.f155.ntmps, look []⟩
noncomputable def e156 : FnE := ⟨Tryz.f156, bodyOf Tryz.f156, Tryz.f156.ntmps, look []⟩
noncomputable def e157 : FnE := ⟨Tryz.f157, bodyOf Tryz.f157, Tryz.f157.ntmps, look []⟩
noncomputable def e158 : FnE := ⟨Tryz.f158, bodyOf Tryz.f158, Tryz.f158.ntmps, look [(7, ⟨[0, 1, 2, 3, 4, 5, 6, 7, 8, 9, 10, 11], [12], false, some [12, 13, 14]⟩), (8, ⟨[0, 1, 2, 3, 4, 5, 6, 7, 8, 9, 10, 11], [12], false, some [12, 13, 14]⟩), (9, ⟨[0, 1, 2, 3, 4, 5, 6, 7, 8, 9, 10, 11], [12], false, some [12, 13, 14]⟩), (10, ⟨[0, 1, 2, 3, 4, 5, 6, 7, 8, 9, 10, 11], [12], false, some [12, 13, 14]⟩), (17, ⟨[0, 1, 2, 3, 4, 5, 6, 7, 8, 9, 10, 11], [12], false, some [12, 13, 14]⟩), (18, ⟨[0, 1, 2, 3, 4, 5, 6, 7, 8, 9, 10, 11], [12], false, some [12, 13, 14]⟩), (23, ⟨[0, 1, 2, 3, 4, 5, 6, 7, 8, 9, 10, 11], [12], false, some [12, 13, 14]⟩)]⟩
noncomputable def e159 : FnE := ⟨Tryz.f159, bodyOf Tryz.f159, Tryz.f159.ntmps, look []⟩
noncomputable def e160 : FnE := ⟨Tryz.f160, bodyOf Tryz.f160, Tryz.f160.ntmps, look [(1, ⟨[0, 1, 2, 3, 4, 5, 6, 7, 8, 9, 10, 11, 12, 13, 14, 15, 16, 17, 18, 19, 20], [], false, some [21, 22, 23]⟩)]⟩
noncomputable def e161 : FnE := ⟨Tryz.f161, bodyOf Tryz.f161, Tryz.f161.ntmps, look []⟩
noncomputable def e162 : FnE := ⟨Tryz.f162, bodyOf Tryz.f162, Tryz.f162.ntmps, look [(6, ⟨[0, 1, 2, 3, 4, 5, 6, 7, 8, 9, 10], [], false, some []⟩), (8, ⟨[0, 1, 2, 3, 4, 5, 6, 7, 8, 9, 10], [], false, some []⟩)]⟩
noncomputable def e163 : FnE := ⟨Tryz.f163, bodyOf Tryz.f163, Tryz.f163.ntmps, look [(1, ⟨[0, 1, 2, 3, 4, 5, 6], [], false, some [7, 8, 9, 10]⟩), (3, ⟨[0, 1, 2, 3, 4, 5, 6, 7], [], false, some [8, 9]⟩), (4, ⟨[0, 1, 2, 3, 4, 5, 6, 7, 8, 9, 10], [], false, some []⟩), (5, ⟨[0, 1, 2, 3, 4, 5, 6], [], false, some [7, 8, 9, 10]⟩)]⟩
noncomputable def e164 : FnE := ⟨Tryz.f164, bodyOf Tryz.f164, Tryz.f164.ntmps, look [(2, ⟨[0, 1, 2, 3, 4, 5, 6], [], false, some [7]⟩)]⟩
noncomputable def e165 : FnE := ⟨Tryz.f165, bodyOf Tryz.f165, Tryz.f165.ntmps, look []⟩
noncomputable def e166 : FnE := ⟨Tryz.f166, bodyOf Tryz.f166, Tryz.f166.ntmps, look []⟩
noncomputable def e167 : FnE := ⟨Tryz.f167, bodyOf Tryz.f167, Tryz.f167.ntmps, look []⟩
noncomputable def e168 : FnE := ⟨Tryz.f168, bodyOf Tryz.f168, Tryz.f168.ntmps, look []⟩
noncomputable def e169 : FnE := ⟨Tryz.f169, bodyOf Tryz.f169, Tryz.f169.ntmps, look []⟩
noncomputable def e170 : FnE := ⟨Tryz.f170, bodyOf Tryz.f170, Tryz.f170.ntmps, look []⟩
noncomputable def e171 : FnE := ⟨Tryz.f171, bodyOf Tryz.f171, Tryz.f171.ntmps, look []⟩
noncomputable def e172 : FnE := ⟨Tryz.f172, bodyOf Tryz.f172, Tryz.f172.ntmps, look []⟩
noncomputable def e173 : FnE := ⟨Tryz.f173, bodyOf Tryz.f173, Tryz.f173.ntmps, look []⟩
noncomputable def e174 : FnE := ⟨Tryz.f174, bodyOf Tryz.f174, Tryz.f174.ntmps, look []⟩
noncomputable def e175 : FnE := ⟨Tryz.f175, bodyOf Tryz.f175, Tryz.f175.ntmps, look []⟩
noncomputable def e176 : FnE := ⟨Tryz.f176, bodyOf Tryz.f176, Tryz.f176.ntmps, look []⟩
noncomputable def e177 : FnE := ⟨Tryz.f177, bodyOf Tryz.f177, Tryz.f177.ntmps, look []⟩
noncomputable def e178 : FnE := ⟨Tryz.f178, bodyOf Tryz.f178, Tryz.f178.ntmps, look []⟩
noncomputable def e179 : FnE := ⟨Tryz.f179, bodyOf Tryz.f179, Tryz.f179.ntmps, look []⟩
noncomputable def e180 : FnE := ⟨Tryz.f180, bodyOf Tryz.f180, Tryz.f180.ntmps, look []⟩
noncomputable def e181 : FnE := ⟨Tryz.f181, bodyOf Tryz.f181, Tryz.f181.ntmps, look [(6, ⟨[0, 1, 2, 3, 4, 5, 6, 7, 8, 9, 10], [], false, some []⟩), (8, ⟨[0, 1, 2, 3, 4, 5, 6, 7, 8, 9, 10], [], false, some []⟩)]⟩
noncomputable def e182 : FnE := ⟨Tryz.f182, bodyOf Tryz.f182, Tryz.f182.ntmps, look [(4, ⟨[0, 1, 2, 3, 4, 5, 6, 7, 8, 9, 10], [], false, some []⟩)]⟩
noncomputable def e183 : FnE := ⟨Tryz.f183, bodyOf Tryz.f183, Tryz.f183.ntmps, look [(3, ⟨[0, 1, 2, 3, 4, 5, 6, 7, 8, 10, 11, 12, 13], [9, 14, 15], true, none⟩)]⟩
noncomputable def e184 : FnE := ⟨Tryz.f184, bodyOf Tryz.f184, Tryz.f184.ntmps, look [(3, ⟨[0, 1, 2, 3, 4, 5, 6, 7, 8, 9, 10, 11, 12], [], false, some []⟩)]⟩
noncomputable def e185 : FnE := ⟨Tryz.f185, bodyOf Tryz.f185, Tryz.f185.ntmps, look []⟩
noncomputable def e186 : FnE := ⟨Tryz.f186, bodyOf Tryz.f186, Tryz.f186.ntmps, look []⟩
noncomputable def e187 : FnE := ⟨Tryz.f187, bodyOf Tryz.f187, Tryz.f187.ntmps, look [(0, ⟨[0, 1, 2, 3, 4, 5, 6, 7, 8, 9, 10, 11], [], false, some [12]⟩), (2, ⟨[0, 1, 2, 3, 4, 5, 6, 7, 8, 9, 10, 11, 12, 13, 14, 15, 16, 17, 18], [], false, some [19]⟩), (4, ⟨[0, 1, 2, 3, 4, 5, 6, 7, 8, 9, 10, 11, 12, 13, 14, 15, 16, 17, 18], [], false, some [19]⟩)]⟩
noncomputable def e188 : FnE := ⟨Tryz.f188, bodyOf Tryz.f188, Tryz.f188.ntmps, look []⟩
noncomputable def e189 : FnE := ⟨Tryz.f189, bodyOf Tryz.f189, Tryz.f189.ntmps, look []⟩
noncomputable def e190 : FnE := ⟨Tryz.f190, bodyOf Tryz.f190, Tryz.f190.ntmps, look []⟩
noncomputable def e191 : FnE := ⟨Tryz.f191, bodyOf Tryz.f191, Tryz.f191.ntmps, look [(1, ⟨[0, 1, 2, 3, 4, 5, 6, 7, 8, 9, 10, 11, 12, 13], [], false, some [14]⟩), (2, ⟨[0, 1, 2, 3, 4, 5, 6, 7, 8, 9, 10, 11, 12, 13], [], false, some [14]⟩)]⟩
noncomputable def e192 : FnE := ⟨Tryz.f192, bodyOf Tryz.f192, Tryz.f192.ntmps, look [(1, ⟨[0, 1, 2, 3, 4, 5, 6, 7, 8, 9], [10], false, some [10, 11, 12]⟩)]⟩
noncomputable def e193 : FnE := ⟨Tryz.f193, bodyOf Tryz.f193, Tryz.f193.ntmps, look []⟩
noncomputable def e194 : FnE := ⟨Tryz.f194, bodyOf Tryz.f194, Tryz.f194.ntmps, look []⟩
noncomputable def e195 : FnE := ⟨Tryz.f195, bodyOf Tryz.f195, Tryz.f195.ntmps, look []⟩
noncomputable def e196 : FnE := ⟨Tryz.f196, bodyOf Tryz.f196, Tryz.f196.ntmps, look []⟩
noncomputable def e197 : FnE := ⟨Tryz.f197, bodyOf Tryz.f197, Tryz.f197.ntmps, look []⟩
noncomputable def e198 : FnE := ⟨Tryz.f198, bodyOf Tryz.f198, Tryz.f198.ntmps, look [(0, ⟨[0, 1, 2, 3, 4, 5, 6, 7, 8], [], false, some [9, 10, 11, 12]⟩), (2, ⟨[0, 1, 2, 3, 4, 5, 6, 7, 8, 9, 10, 11, 12, 13, 14, 15], [], false, some [16, 17, 18, 19]⟩), (4, ⟨[0, 1, 2, 3, 4, 5, 6, 7, 8, 9, 10, 11, 12, 13, 14, 15], [], false, some [16, 17, 18, 19]⟩)]⟩
noncomputable def e199 : FnE := ⟨Tryz.f199, bodyOf Tryz.f199, Tryz.f199.ntmps, look []⟩
noncomputable def e200 : FnE := ⟨Tryz.f200, bodyOf Tryz.f200, Tryz.f200.ntmps, look []⟩
noncomputable def e201 : FnE := ⟨Tryz.f201, bodyOf Tryz.f201, Tryz.f201.ntmps, look []⟩
noncomputable def e202 : FnE := ⟨Tryz.f202, bodyOf Tryz.f202, Tryz.f202.ntmps, look [(1, ⟨[0, 1, 2, 3, 4, 5, 6, 7, 8, 9, 10, 11, 12, 13], [], false, some [14]⟩), (2, ⟨[0, 1, 2, 3, 4, 5, 6, 7, 8, 9, 10, 11, 12, 13], [], false, some [14]⟩)]⟩
noncomputable def e203 : FnE := ⟨Tryz.f203, bodyOf Tryz.f203, Tryz.f203.ntmps, look []⟩
noncomputable def e204 : FnE := ⟨Tryz.f204, bodyOf Tryz.f204, Tryz.f204.ntmps, look []⟩
noncomputable def e205 : FnE := ⟨Tryz.f205, bodyOf Tryz.f205, Tryz.f205.ntmps, look []⟩
noncomputable def e206 : FnE := ⟨Tryz.f206, bodyOf Tryz.f206, Tryz.f206.ntmps, look [(3, ⟨[0, 1, 2, 3, 4, 5, 6, 7, 8, 9, 10, 11, 12, 13, 14, 15, 16, 17, 18], [], false, some []⟩)]⟩
theorem o15 : FnOk Tryz.prog 15 e15 := ⟨Tryz.func15, by kernel_rfl, rfl, Tryz.call15, by kernel_rfl⟩
theorem o17 : FnOk Tryz.prog 17 e17 := ⟨Tryz.func17, by kernel_rfl, rfl, Tryz.call17, by kernel_rfl⟩
theorem o20 : FnOk Tryz.prog 20 e20 := ⟨Tryz.func20, by kernel_rfl, rfl, Tryz.call20, by kernel_rfl⟩
theorem o21 : FnOk Tryz.prog 21 e21 := ⟨Tryz.func21, by kernel_rfl, rfl, Tryz.call21, by kernel_rfl⟩
theorem o22 : FnOk Tryz.prog 22 e22 := ⟨Tryz.func22, by kernel_rfl, rfl, Tryz.call22, by kernel_rfl⟩
theorem o23 : FnOk Tryz.prog 23 e23 := ⟨Tryz.func23, by kernel_rfl, rfl, Tryz.call23, by kernel_rfl⟩
theorem o24 : FnOk Tryz.prog 24 e24 := ⟨Tryz.func24, by kernel_rfl, rfl, Tryz.call24, by kernel_rfl⟩
theorem o25 : FnOk Tryz.prog 25 e25 := ⟨Tryz.func25, by kernel_rfl, rfl, Tryz.call25, by kernel_rfl⟩
theorem o26 : FnOk Tryz.prog 26 e26 := ⟨Tryz.func26, by kernel_rfl, rfl, Tryz.call26, by kernel_rfl⟩
theorem o32 : FnOk Tryz.prog 32 e32 := ⟨Tryz.func32, by kernel_rfl, rfl, Tryz.call32, by kernel_rfl⟩
theorem o33 : FnOk Tryz.prog 33 e33 := ⟨Tryz.func33, by kernel_rfl, rfl, Tryz.call33, by kernel_rfl⟩
theorem o38 : FnOk Tryz.prog 38 e38 := ⟨Tryz.func38, by kernel_rfl, rfl, Tryz.call38, by kernel_rfl⟩
theorem o39 : FnOk Tryz.prog 39 e39 := ⟨Tryz.func39, by kernel_rfl, rfl, Tryz.call39, by kernel_rfl⟩
theorem o40 : FnOk Tryz.prog 40 e40 := ⟨Tryz.func40, by kernel_rfl, rfl, Tryz.call40, by kernel_rfl⟩
theorem o41 : FnOk Tryz.prog 41 e41 := ⟨Tryz.func41, by kernel_rfl, rfl, Tryz.call41, by kernel_rfl⟩
theorem o43 : FnOk Tryz.prog 43 e43 := ⟨Tryz.func43, by kernel_rfl, rfl, Tryz.call43, by kernel_rfl⟩
theorem o44 : FnOk Tryz.prog 44 e44 := ⟨Tryz.func44, by kernel_rfl, rfl, Tryz.call44, by kernel_rfl⟩
theorem o45 : FnOk Tryz.prog 45 e45 := ⟨Tryz.func45, by kernel_rfl, rfl, Tryz.call45, by kernel_rfl⟩
theorem o46 : FnOk Tryz.prog 46 e46 := ⟨Tryz.func46, by kernel_rfl, rfl, Tryz.call46, by kernel_rfl⟩
theorem o47 : FnOk Tryz.prog 47 e47 := ⟨Tryz.func47, by kernel_rfl, rfl, Tryz.call47, by kernel_rfl⟩
theorem o48 : FnOk Tryz.prog 48 e48 := ⟨Tryz.func48, by kernel_rfl, rfl, Tryz.call48, by kernel_rfl⟩
theorem o49 : FnOk Tryz.prog 49 e49 := ⟨Tryz.func49, by kernel_rfl, rfl, Tryz.call49, by kernel_rfl⟩
theorem o50 : FnOk Tryz.prog 50 e50 := ⟨Tryz.func50, by kernel_rfl, rfl, Tryz.call50, by kernel_rfl⟩
theorem o52 : FnOk Tryz.prog 52 e52 := ⟨Tryz.func52, by kernel_rfl, rfl, Tryz.call52, by kernel_rfl⟩
theorem o54 : FnOk Tryz.prog 54 e54 := ⟨Tryz.func54, by kernel_rfl, rfl, Tryz.call54, by kernel_rfl⟩
theorem o56 : FnOk Tryz.prog 56 e56 := ⟨Tryz.func56, by kernel_rfl, rfl, Tryz.call56, by kernel_rfl⟩
theorem o58 : FnOk Tryz.prog 58 e58 := ⟨Tryz.func58, by kernel_rfl, rfl, Tryz.call58, by kernel_rfl⟩
theorem o59 : FnOk Tryz.prog 59 e59 := ⟨Tryz.func59, by kernel_rfl, rfl, Tryz.call59, by kernel_rfl⟩
theorem o60 : FnOk Tryz.prog 60 e60 := ⟨Tryz.func60, by kernel_rfl, rfl, Tryz.call60, by kernel_rfl⟩
theorem o61 : FnOk Tryz.prog 61 e61 := ⟨Tryz.func61, by kernel_rfl, rfl, Tryz.call61, by kernel_rfl⟩
theorem o62 : FnOk Tryz.prog 62 e62 := ⟨Tryz.func62, by kernel_rfl, rfl, Tryz.call62, by kernel_rfl⟩
theorem o64 : FnOk Tryz.prog 64 e64 := ⟨Tryz.func64, by kernel_rfl, rfl, Tryz.call64, by kernel_rfl⟩
theorem o68 : FnOk Tryz.prog 68 e68 := ⟨Tryz.func68, by kernel_rfl, rfl, Tryz.call68, by kernel_rfl⟩
theorem o69 : FnOk Tryz.prog 69 e69 := ⟨Tryz.func69, by kernel_rfl, rfl, Tryz.call69, by kernel_rfl⟩
theorem o70 : FnOk Tryz.prog 70 e70 := ⟨Tryz.func70, by kernel_rfl, rfl, Tryz.call70, by kernel_rfl⟩
theorem o71 : FnOk Tryz.prog 71 e71 := ⟨Tryz.func71, by kernel_rfl, rfl, Tryz.call71, by kernel_rfl⟩
theorem o72 : FnOk Tryz.prog 72 e72 := ⟨Tryz.func72, by kernel_rfl, rfl, Tryz.call72, by kernel_rfl⟩
theorem o73 : FnOk Tryz.prog 73 e73 := ⟨Tryz.func73, by kernel_rfl, rfl, Tryz.call73, by kernel_rfl⟩
theorem o75 : FnOk Tryz.prog 75 e75 := ⟨Tryz.func75, by kernel_rfl, rfl, Tryz.call75, by kernel_rfl⟩
theorem o76 : FnOk Tryz.prog 76 e76 := ⟨Tryz.func76, by kernel_rfl, rfl, Tryz.call76, by kernel_rfl⟩
theorem o77 : FnOk Tryz.prog 77 e77 := ⟨Tryz.func77, by kernel_rfl, rfl, Tryz.call77, by kernel_rfl⟩
theorem o78 : FnOk Tryz.prog 78 e78 := ⟨Tryz.func78, by kernel_rfl, rfl, Tryz.call78, by kernel_rfl⟩
theorem o79 : FnOk Tryz.prog 79 e79 := ⟨Tryz.func79, by kernel_rfl, rfl, Tryz.call79, by kernel_rfl⟩
theorem o80 : FnOk Tryz.prog 80 e80 := ⟨Tryz.func80, by kernel_rfl, rfl, Tryz.call80, by kernel_rfl⟩
theorem o81 : FnOk Tryz.prog 81 e81 := ⟨Tryz.func81, by kernel_rfl, rfl, Tryz.call81, by kernel_rfl⟩
theorem o89 : FnOk Tryz.prog 89 e89 := ⟨Tryz.func89, by kernel_rfl, rfl, Tryz.call89, by kernel_rfl⟩
theorem o95 : FnOk Tryz.prog 95 e95 := ⟨Tryz.func95, by kernel_rfl, rfl, Tryz.call95, by kernel_rfl⟩
theorem o96 : FnOk Tryz.prog 96 e96 := ⟨Tryz.func96, by kernel_rfl, rfl, Tryz.call96, by kernel_rfl⟩
theorem o97 : FnOk Tryz.prog 97 e97 := ⟨Tryz.func97, by kernel_rfl, rfl, Tryz.call97, by kernel_rfl⟩
theorem o99 : FnOk Tryz.prog 99 e99 := ⟨Tryz.func99, by kernel_rfl, rfl, Tryz.call99, by kernel_rfl⟩
theorem o100 : FnOk Tryz.prog 100 e100 := ⟨Tryz.func100, by kernel_rfl, rfl, Tryz.call100, by kernel_rfl⟩
theorem o102 : FnOk Tryz.prog 102 e102 := ⟨Tryz.func102, by kernel_rfl, rfl, Tryz.call102, by kernel_rfl⟩
theorem o103 : FnOk Tryz.prog 103 e103 := ⟨Tryz.func103, by kernel_rfl, rfl, Tryz.call103, by kernel_rfl⟩
theorem o104 : FnOk Tryz.prog 104 e104 := ⟨Tryz.func104, by kernel_rfl, rfl, Tryz.call104, by kernel_rfl⟩
theorem o105 : FnOk Tryz.prog 105 e105 := ⟨Tryz.func105, by kernel_rfl, rfl, Tryz.call105, by kernel_rfl⟩
theorem o108 : FnOk Tryz.prog 108 e108 := ⟨Tryz.func108, by kernel_rfl, rfl, Tryz.call108, by kernel_rfl⟩
theorem o109 : FnOk Tryz.prog 109 e109 := ⟨Tryz.func109, by kernel_rfl, rfl, Tryz.call109, by kernel_rfl⟩
theorem o110 : FnOk Tryz.prog 110 e110 := ⟨Tryz.func110, by kernel_rfl, rfl, Tryz.call110, by kernel_rfl⟩
theorem o111 : FnOk Tryz.prog 111 e111 := ⟨Tryz.func111, by kernel_rfl, rfl, Tryz.call111, by kernel_rfl⟩
theorem o117 : FnOk Tryz.prog 117 e117 := ⟨Tryz.func117, by kernel_rfl, rfl, Tryz.call117, by kernel_rfl⟩
theorem o118 : FnOk Tryz.prog 118 e118 := ⟨Tryz.func118, by kernel_rfl, rfl, Tryz.call118, by kernel_rfl⟩
theorem o119 : FnOk Tryz.prog 119 e119 := ⟨Tryz.func119, by kernel_rfl, rfl, Tryz.call119, by kernel_rfl⟩
theorem o120 : FnOk Tryz.prog 120 e120 := ⟨Tryz.func120, by kernel_rfl, rfl, Tryz.call120, by kernel_rfl⟩
theorem o121 : FnOk Tryz.prog 121 e121 := ⟨Tryz.func121, by kernel_rfl, rfl, Tryz.call121, by kernel_rfl⟩
theorem o122 : FnOk Tryz.prog 122 e122 := ⟨Tryz.func122, by kernel_rfl, rfl, Tryz.call122, by kernel_rfl⟩
theorem o123 : FnOk Tryz.prog 123 e123 := ⟨Tryz.func123, by kernel_rfl, rfl, Tryz.call123, by kernel_rfl⟩
theorem o124 : FnOk Tryz.prog 124 e124 := ⟨Tryz.func124, by kernel_rfl, rfl, Tryz.call124, by kernel_rfl⟩
theorem o126 : FnOk Tryz.prog 126 e126 := ⟨Tryz.func126, by kernel_rfl, rfl, Tryz.call126, by kernel_rfl⟩
theorem o129 : FnOk Tryz.prog 129 e129 := ⟨Tryz.func129, by kernel_rfl, rfl, Tryz.call129, by kernel_rfl⟩
theorem o130 : FnOk Tryz.prog 130 e130 := ⟨Tryz.func130, by kernel_rfl, rfl, Tryz.call130, by kernel_rfl⟩
theorem o134 : FnOk Tryz.prog 134 e134 := ⟨Tryz.func134, by kernel_rfl, rfl, Tryz.call134, by kernel_rfl⟩
theorem o135 : FnOk Tryz.prog 135 e135 := ⟨Tryz.func135, by kernel_rfl, rfl, Tryz.call135, by kernel_rfl⟩
theorem o136 : FnOk Tryz.prog 136 e136 := ⟨Tryz.func136, by kernel_rfl, rfl, Tryz.call136, by kernel_rfl⟩
theorem o137 : FnOk Tryz.prog 137 e137 := ⟨Tryz.func137, by kernel_rfl, rfl, Tryz.call137, by kernel_rfl⟩
theorem o138 : FnOk Tryz.prog 138 e138 := ⟨Tryz.func138, by kernel_rfl, rfl, Tryz.call138, by kernel_rfl⟩
theorem o139 : FnOk Tryz.prog 139 e139 := ⟨Tryz.func139, by kernel_rfl, rfl, Tryz.call139, by kernel_rfl⟩
theorem o140 : FnOk Tryz.prog 140 e140 := ⟨Tryz.func140, by kernel_rfl, rfl, Tryz.call140, by kernel_rfl⟩
theorem o141 : FnOk Tryz.prog 141 e141 := ⟨Tryz.func141, by kernel_rfl, rfl, Tryz.call141, by kernel_rfl⟩
theorem o142 : FnOk Tryz.prog 142 e142 := ⟨Tryz.func142, by kernel_rfl, rfl, Tryz.call142, by kernel_rfl⟩
theorem o143 : FnOk Tryz.prog 143 e143 := ⟨Tryz.func143, by kernel_rfl, rfl, Tryz.call143, by kernel_rfl⟩
theorem o144 : FnOk Tryz.prog 144 e144 := ⟨Tryz.func144, by kernel_rfl, rfl, Tryz.call144, by kernel_rfl⟩
theorem o145 : FnOk Tryz.prog 145 e145 := ⟨Tryz.func145, by kernel_rfl, rfl, Tryz.call145, by kernel_rfl⟩
theorem o146 : FnOk Tryz.prog 146 e146 := ⟨Tryz.func146, by kernel_rfl, rfl, Tryz.call146, by kernel_rfl⟩
theorem o147 : FnOk Tryz.prog 147 e147 := ⟨Tryz.func147, by kernel_rfl, rfl, Tryz.call147, by kernel_rfl⟩
theorem o148 : FnOk Tryz.prog 148 e148 := ⟨Tryz.func148, by kernel_rfl, rfl, Tryz.call148, by kernel_rfl⟩
theorem o149 : FnOk Tryz.prog 149 e149 := ⟨Tryz.func149, by kernel_rfl, rfl, Tryz.call149, by kernel_rfl⟩
theorem o150 : FnOk Tryz.prog 150 e150 := ⟨Tryz.func150, by kernel_rfl, rfl, Tryz.call150, by kernel_rfl⟩
theorem o151 : FnOk Tryz.prog 151 e151 := ⟨Tryz.func151, by kernel_rfl, rfl, Tryz.call151, by kernel_rfl⟩
theorem o152 : FnOk Tryz.prog 152 e152 := ⟨Tryz.func152, by kernel_rfl, rfl, Tryz.call152, by kernel_rfl⟩
theorem o153 : FnOk Tryz.prog 153 e153 := ⟨Tryz.func153, by kernel_rfl, rfl, Tryz.call153, by kernel_rfl⟩
theorem o154 : FnOk Tryz.prog 154 e154 := ⟨Tryz.func154, by kernel_rfl, rfl, Tryz.call154, by kernel_rfl⟩
theorem o155 : FnOk Tryz.prog 155 e155 := ⟨Tryz.func155, by kernel_rfl, rfl, Tryz.call155, by kernel_rfl⟩
theorem o156 : FnOk Tryz.prog 156 e156 := ⟨Tryz.func156, by kernel_rfl, rfl, Tryz.call156, by kernel_rfl⟩
theorem o157 : FnOk Tryz.prog 157 e157 := ⟨Tryz.func157, by kernel_rfl, rfl, Tryz.call157, by kernel_rfl⟩
theorem o158 : FnOk Tryz.prog 158 e158 := ⟨Tryz.func158, by kernel_rfl, rfl, Tryz.call158, by kernel_rfl⟩
theorem o159 : FnOk Tryz.prog 159 e159 := ⟨Tryz.func159, by kernel_rfl, rfl, Tryz.call159, by kernel_rfl⟩
theorem o160 : FnOk Tryz.prog 160 e160 := ⟨Tryz.func160, by kernel_rfl, rfl, Tryz.call160, by kernel_rfl⟩
theorem o161 : FnOk Tryz.prog 161 e161 := ⟨Tryz.func161, by kernel_rfl, rfl, Tryz.call161, by kernel_rfl⟩
theorem o162 : FnOk Tryz.prog 162 e162 := ⟨Tryz.func162, by kernel_rfl, rfl, Tryz.call162, by kernel_rfl⟩
theorem o163 : FnOk Tryz.prog 163 e163 := ⟨Tryz.func163, by kernel_rfl, rfl, Tryz.call163, by kernel_rfl⟩
theorem o164 : FnOk Tryz.prog 164 e164 := ⟨Tryz.func164, by kernel_rfl, rfl, Tryz.call164, by kernel_rfl⟩
theorem o165 : FnOk Tryz.prog 165 e165 := ⟨Tryz.func165, by kernel_rfl, rfl, Tryz.call165, by kernel_rfl⟩
theorem o166 : FnOk Tryz.prog 166 e166 := ⟨Tryz.func166, by kernel_rfl, rfl, Tryz.call166, by kernel_rfl⟩
theorem o167 : FnOk Tryz.prog 167 e167 := ⟨Tryz.func167, by kernel_rfl, rfl, Tryz.call167, by kernel_rfl⟩
theorem o168 : FnOk Tryz.prog 168 e168 := ⟨Tryz.func168, by kernel_rfl, rfl, Tryz.call168, by kernel_rfl⟩
theorem o169 : FnOk Tryz.prog 169 e169 := ⟨Tryz.func169, by kernel_rfl, rfl, Tryz.call169, by kernel_rfl⟩
theorem o170 : FnOk Tryz.prog 170 e170 := ⟨Tryz.func170, by kernel_rfl, rfl, Tryz.call170, by kernel_rfl⟩
theorem o171 : FnOk Tryz.prog 171 e171 := ⟨Tryz.func171, by kernel_rfl, rfl, Tryz.call171, by kernel_rfl⟩
theorem o172 : FnOk Tryz.prog 172 e172 := ⟨Tryz.func172, by kernel_rfl, rfl, Tryz.call172, by kernel_rfl⟩
theorem o173 : FnOk Tryz.prog 173 e173 := ⟨Tryz.func173, by kernel_rfl, rfl, Tryz.call173, by kernel_rfl⟩
theorem o174 : FnOk Tryz.prog 174 e174 := ⟨Tryz.func174, by kernel_rfl, rfl, Tryz.call174, by kernel_rfl⟩
theorem o175 : FnOk Tryz.prog 175 e175 := ⟨Tryz.func175, by kernel_rfl, rfl, Tryz.call175, by kernel_rfl⟩
theorem o176 : FnOk Tryz.prog 176 e176 := ⟨Tryz.func176, by kernel_rfl, rfl, Tryz.call176, by kernel_rfl⟩
theorem o177 : FnOk Tryz.prog 177 e177 := ⟨Tryz.func177, by kernel_rfl, rfl, Tryz.call177, by kernel_rfl⟩
theorem o178 : FnOk Tryz.prog 178 e178 := ⟨Tryz.func178, by kernel_rfl, rfl, Tryz.call178, by kernel_rfl⟩
theorem o179 : FnOk Tryz.prog 179 e179 := ⟨Tryz.func179, by kernel_rfl, rfl, Tryz.call179, by kernel_rfl⟩
theorem o180 : FnOk Tryz.prog 180 e180 := ⟨Tryz.func180, by kernel_rfl, rfl, Tryz.call180, by kernel_rfl⟩
theorem o181 : FnOk Tryz.prog 181 e181 := ⟨Tryz.func181, by kernel_rfl, rfl, Tryz.call181, by kernel_rfl⟩
theorem o182 : FnOk Tryz.prog 182 e182 := ⟨Tryz.func182, by kernel_rfl, rfl, Tryz.call182, by kernel_rfl⟩
theorem o183 : FnOk Tryz.prog 183 e183 := ⟨Tryz.func183, by kernel_rfl, rfl, Tryz.call183, by kernel_rfl⟩
theorem o184 : FnOk Tryz.prog 184 e184 := ⟨Tryz.func184, by kernel_rfl, rfl, Tryz.call184, by kernel_rfl⟩
theorem o185 : FnOk Tryz.prog 185 e185 := ⟨Tryz.func185, by kernel_rfl, rfl, Tryz.call185, by kernel_rfl⟩
theorem o186 : FnOk Tryz.prog 186 e186 := ⟨Tryz.func186, by kernel_rfl, rfl, Tryz.call186, by kernel_rfl⟩
theorem o187 : FnOk Tryz.prog 187 e187 := ⟨Tryz.func187, by kernel_rfl, rfl, Tryz.call187, by kernel_rfl⟩
theorem o188 : FnOk Tryz.prog 188 e188 := ⟨Tryz.func188, by kernel_rfl, rfl, Tryz.call188, by kernel_rfl⟩
theorem o189 : FnOk Tryz.prog 189 e189 := ⟨Tryz.func189, by kernel_rfl, rfl, Tryz.call189, by kernel_rfl⟩
theorem o190 : FnOk Tryz.prog 190 e190 := ⟨Tryz.func190, by kernel_rfl, rfl, Tryz.call190, by kernel_rfl⟩
theorem o191 : FnOk Tryz.prog 191 e191 := ⟨Tryz.func191, by kernel_rfl, rfl, Tryz.call191, by kernel_rfl⟩
theorem o192 : FnOk Tryz.prog 192 e192 := ⟨Tryz.func192, by kernel_rfl, rfl, Tryz.call192, by kernel_rfl⟩
theorem o193 : FnOk Tryz.prog 193 e193 := ⟨Tryz.func193, by kernel_rfl, rfl, Tryz.call193, by kernel_rfl⟩
theorem o194 : FnOk Tryz.prog 194 e194 := ⟨Tryz.func194, by kernel_rfl, rfl, Tryz.call194, by kernel_rfl⟩
theorem o195 : FnOk Tryz.prog 195 e195 := ⟨Tryz.func195, by kernel_rfl, rfl, Tryz.call195, by kernel_rfl⟩
theorem o196 : FnOk Tryz.prog 196 e196 := ⟨Tryz.func196, by kernel_rfl, rfl, Tryz.call196, by kernel_rfl⟩
theorem o197 : FnOk Tryz.prog 197 e197 := ⟨Tryz.func197, by kernel_rfl, rfl, Tryz.call197, by kernel_rfl⟩
theorem o198 : FnOk Tryz.prog 198 e198 := ⟨Tryz.func198, by kernel_rfl, rfl, Tryz.call198, by kernel_rfl⟩
theorem o199 : FnOk Tryz.prog 199 e199 := ⟨Tryz.func199, by kernel_rfl, rfl, Tryz.call199, by kernel_rfl⟩
theorem o200 : FnOk Tryz.prog 200 e200 := ⟨Tryz.func200, by kernel_rfl, rfl, Tryz.call200, by kernel_rfl⟩
theorem o201 : FnOk Tryz.prog 201 e201 := ⟨Tryz.func201, by kernel_rfl, rfl, Tryz.call201, by kernel_rfl⟩
theorem o202 : FnOk Tryz.prog 202 e202 := ⟨Tryz.func202, by kernel_rfl, rfl, Tryz.call202, by kernel_rfl⟩
theorem o203 : FnOk Tryz.prog 203 e203 := ⟨Tryz.func203, by kernel_rfl, rfl, Tryz.call203, by kernel_rfl⟩
theorem o204 : FnOk Tryz.prog 204 e204 := ⟨Tryz.func204, by kernel_rfl, rfl, Tryz.call204, by kernel_rfl⟩
theorem o205 : FnOk Tryz.prog 205 e205 := ⟨Tryz.func205, by kernel_rfl, rfl, Tryz.call205, by kernel_rfl⟩
theorem o206 : FnOk Tryz.prog 206 e206 := ⟨Tryz.func206, by kernel_rfl, rfl, Tryz.call206, by kernel_rfl⟩
noncomputable def envL : List (Option FnE) := [none, none, none, none, none, none, none, none, none, none, none, none, none, none, none, some e15, none, some e17, none, none, some e20, some e21, some e22, some e23, some e24, some e25, some e26, none, none, none, none, none, some e32, some e33, none, none, none, none, some e38, some e39, some e40, some e41, none, some e43, some e44, some e45, some e46, some e47, some e48, some e49, some e50, none, some e52, none, some e54, none, some e56, none, some e58, some e59, some e60, some e61, some e62, none, some e64, none, none, none, some e68, some e69, some e70, some e71, some e72, some e73, none, some e75, some e76, some e77, some e78, some e79, some e80, some e81, none, none, none, none, none, none, none, some e89, none, none, none, none, none, some e95, some e96, some e97, none, some e99, some e100, none, some e102, some e103, some e104, some e105, none, none, some e108, some e109, some e110, some e111, none, none, none, none, none, some e117, some e118, some e119, some e120, some e121, some e122, some e123, some e124, none, some e126, none, none, some e129, some e130, none, none, none, some e134, some e135, some e136, some e137, some e138, some e139, some e140, some e141, some e142, some e143, some e144, some e145, some e146, some e147, some e148, some e149, some e150, some e151, some e152, some e153, some e154, some e155, some e156, some e157, some e158, some e159, some e160, some e161, some e162, some e163, some e164, some e165, some e166, some e167, some e168, some e169, some e170, some e171, some e172, some e173, some e174, some e175, some e176, some e177, some e178, some e179, some e180, some e181, some e182, some e183, some e184, some e185, some e186, some e187, some e188, some e189, some e190, some e191, some e192, some e193, some e194, some e195, some e196, some e197, some e198, some e199, some e200, some e201, some e202, some e203, some e204, some e205, some e206]
noncomputable def env (g : Nat) : Option FnE := match envL[g]? with
  | some x => x
  | none => none
def AllOk (P : Program) : Nat → List (Option FnE) → Prop
  | _, [] => True
  | n, some x :: l => FnOk P n x ∧ AllOk P (n + 1) l
  | n, none :: l => AllOk P (n + 1) l
theorem AllOk.get {P : Program} : ∀ {l : List (Option FnE)} {n i : Nat} {x : FnE}, AllOk P n l → l[i]? = some (some x) → FnOk P (n + i) x
  | [], n, i, x, _, h => by simp at h
  | some y :: l, n, 0, x, h, hx => by
    simp at hx
    subst hx
    exact h.1
  | none :: l, n, 0, x, h, hx => by simp at hx
  | some y :: l, n, i + 1, x, h, hx => by
    have := AllOk.get (l := l) (n := n + 1) (i := i) h.2 (by simpa using hx)
    rw [show n + (i + 1) = n + 1 + i by omega]
    exact this
  | none :: l, n, i + 1, x, h, hx => by
    have := AllOk.get (l := l) (n := n + 1) (i := i) (x := x) h (by simpa using hx)
    rw [show n + (i + 1) = n + 1 + i by omega]
    exact this
theorem envL_ok : AllOk Tryz.prog 0 envL := ⟨o15, o17, o20, o21, o22, o23, o24, o25, o26, o32, o33, o38, o39, o40, o41, o43, o44, o45, o46, o47, o48, o49, o50, o52, o54, o56, o58, o59, o60, o61, o62, o64, o68, o69, o70, o71, o72, o73, o75, o76, o77, o78, o79, o80, o81, o89, o95, o96, o97, o99, o100, o102, o103, o104, o105, o108, o109, o110, o111, o117, o118, o119, o120, o121, o122, o123, o124, o126, o129, o130, o134, o135, o136, o137, o138, o139, o140, o141, o142, o143, o144, o145, o146, o147, o148, o149, o150, o151, o152, o153, o154, o155, o156, o157, o158, o159, o160, o161, o162, o163, o164, o165, o166, o167, o168, o169, o170, o171, o172, o173, o174, o175, o176, o177, o178, o179, o180, o181, o182, o183, o184, o185, o186, o187, o188, o189, o190, o191, o192, o193, o194, o195, o196, o197, o198, o199, o200, o201, o202, o203, o204, o205, o206, trivial⟩
theorem env_ok : EnvOk Tryz.prog env := fun g x hx => by
  unfold env at hx
  split at hx
  · rename_i y hy
    subst hx
    have := AllOk.get (l := envL) envL_ok hy
    simpa using this
  · cases hx
def inU64 (x : Int) : Bool := decide (0 ≤ x) && decide (x < 18446744073709551616)
noncomputable def ext (g : Nat) (a : List Value) : Option Value :=
  match a with
  | [.int .u64 x, .int .u64 y, .int .u64 c] => match inU64 x && inU64 y && (decide (0 ≤ c) && decide (c ≤ 1)) with
    | true => match Nat.beq g 125 with
      | true => some (.tuple #[.int .u64 (lo3 x y c), .int .u64 (hi3 x y c)])
      | false => match Nat.beq g 101 with
        | true => some (.tuple #[.int .u64 (los x y c), .int .u64 (bor x y c)])
        | false => none
    | false => none
  | _ => none
theorem ext_ok : XOk Tryz.prog ext := fun g a v h w => by
  unfold ext at h
  split at h
  case h_2 => cases h
  rename_i x y c
  split at h
  case h_2 => cases h
  rename_i hb
  simp only [inU64, Bool.and_eq_true, decide_eq_true_eq] at hb
  have hx : U64 x := by unfold U64 P64; omega
  have hy : U64 y := by unfold U64 P64; omega
  have hc : Carry c := by unfold Carry; omega
  split at h
  · rename_i h1
    obtain rfl : g = 125 := by simpa using h1
    simp only [Option.some.injEq] at h
    subst h
    exact run_add hx hy hc w
  · split at h
    · rename_i h2
      obtain rfl : g = 101 := by simpa using h2
      simp only [Option.some.injEq] at h
      subst h
      exact run_sub hx hy hc w
    · cases h
/-- The whole run of a call with the arguments a, in any world; Z: calls that are known. -/
noncomputable def run (Z : Nat → List Value → Option Value) (f g : Nat) (a : List Value) (K : Value → Value → St → Res) (sup : List Nat) : Res :=
  callW lock Tryz.prog env Z (ev Tryz.prog env Z ext f Res lock) 0 0 g a a ⟨[], sup⟩ K
/-- Names. -/
def names (σ : Nat → Nat) : Nat → List Nat
  | 0 => []
  | n + 1 => σ n :: names σ n
theorem names_congr {σ τ : Nat → Nat} : ∀ n, (∀ i, i < n → σ i = τ i) → names σ n = names τ n
  | 0, _ => rfl
  | n + 1, h => by
    simp only [names]
    rw [h n (Nat.lt_succ_self n), names_congr n (fun i hi => h i (Nat.lt_succ_of_lt hi))]
theorem names_all : ∀ l : List Nat, names (fun i => l.reverse.getD i 0) l.length = l
  | [] => rfl
  | x :: l => by
    simp only [List.length_cons, names]
    have e1 : (x :: l).reverse.getD l.length 0 = x := by simp [List.getElem?_append]
    rw [e1]
    congr 1
    refine (names_congr _ (fun i hi => ?_)).trans (names_all l)
    simp [List.getElem?_append, hi]
theorem mixed : Tryz.prog.follows .mixedOrders = true := by kernel_rfl
theorem run_okZ {Z : Nat → List Value → Option Value} (hZ : ZOk Tryz.prog Z) {g : Nat} {a : List Value} {v : Value} (f : Nat) (w : World) (h : ∀ σ, (run Z f g a (fun r _ _ => .obs r v .ok) (names σ 4000)).L = (run Z f g a (fun r _ _ => .obs r v .ok) (names σ 4000)).R) : Calls Tryz.prog g ⟨a⟩ w (Ret w v) := by
  obtain ⟨_, h2⟩ := callW_ok (B := w.heap.size) env_ok hZ (ev_ok env_ok hZ ext_ok mixed f) (Nat.le_refl 0) g a a 4000 [] w _ (Rep.nil _ _ _) (Nat.le_refl _) (Nat.le_refl _) (fun sup => by
    have e := names_all sup.1
    rw [sup.2] at e
    rw [← e]
    exact Res.good_of (h _))
  refine Calls.mono h2 (fun e w' he => ?_)
  obtain ⟨r, _, N', h', rfl, _, k2, _, _, k5⟩ := he
  obtain rfl : r = v := (k5 (.some _)).1
  exact ⟨rfl, k2.below⟩
def noZ : Nat → List Value → Option Value := fun _ _ => none
theorem noZ_ok (P : Program) : ZOk P noZ := fun _ _ _ h => by cases h
theorem run_ok {g : Nat} {a : List Value} {v : Value} (f : Nat) (w : World) (h : ∀ σ, (run noZ f g a (fun r _ _ => .obs r v .ok) (names σ 4000)).L = (run noZ f g a (fun r _ _ => .obs r v .ok) (names σ 4000)).R) : Calls Tryz.prog g ⟨a⟩ w (Ret w v) := run_okZ (noZ_ok _) f w h
/-- Functions without arguments that come to true. -/
def trues (l : List Nat) : Nat → List Value → Option Value := fun g a => match a with
  | [] => match l.contains g with
    | true => some (.bool true)
    | false => none
  | _ => none
theorem trues_ok {l : List Nat} (h : ∀ g ∈ l, (∀ args w, (callFunc g args).run Tryz.prog w = .ok (.enter g args) w) ∧ ∀ w, Calls Tryz.prog g #[] w (Ret w (.bool true))) : ZOk Tryz.prog (trues l) := fun g a v hv => by
  unfold trues at hv
  split at hv
  · split at hv
    · rename_i hc
      simp only [Option.some.injEq] at hv
      subst hv
      obtain ⟨h1, h2⟩ := h g (by simpa using hc)
      exact ⟨fun w => h1 _ w, fun w => h2 w⟩
    · cases hv
  · cases hv
end Go.Proofs.YtemfhipofgafiaaGreatDoor.Ev
