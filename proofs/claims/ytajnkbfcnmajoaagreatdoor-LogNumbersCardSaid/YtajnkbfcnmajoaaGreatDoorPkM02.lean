/-
  PROVED HERE: texts that belong together, one behind the other; what each proves, and under which conditions, its own opening remark says: Genesis21, CLack.
-/
import Derived.Test.YtajnkbfcnmajoaaGreatDoorPkB08
import Derived.Test.YtajnkbfcnmajoaaGreatDoorPkB26
import Derived.Test.YtajnkbfcnmajoaaGreatDoorPkB34
/-
  PROVED HERE: the first Prev of chapter 21's archive is not that of the archive 'another' (SHA-256 of two short rows of bytes, by certificates); no condition.
-/
namespace Go.Proofs.YtajnkbfcnmajoaaGreatDoor
open Go.RowKit
def cw (L : List Nat) (j : Nat) : BitVec 32 := BitVec.ofNat 32 (L.getD j 0)
def ckW (bs : List UInt8) (W : List Nat) (j : Nat) : Bool := cw W j == (if j < 16 then wordAt bs j else cw W (j - 16) + sig0 (cw W (j - 15)) + cw W (j - 7) + sig1 (cw W (j - 2)))
def ct1 (W E : List Nat) (t : Nat) : BitVec 32 := cw E t + Sig1 (cw E (t + 3)) + chf (cw E (t + 3)) (cw E (t + 2)) (cw E (t + 1)) + kAt t + cw W t
def ckR (W A E : List Nat) (t : Nat) : Bool := cw A (t + 4) == ct1 W E t + (Sig0 (cw A (t + 3)) + maj (cw A (t + 3)) (cw A (t + 2)) (cw A (t + 1))) && cw E (t + 4) == cw A t + ct1 W E t
def stAt (A E : List Nat) (n : Nat) : S8 := ⟨cw A (n + 3), cw A (n + 2), cw A (n + 1), cw A n, cw E (n + 3), cw E (n + 2), cw E (n + 1), cw E n⟩
theorem sched_of {bs : List UInt8} {W : List Nat} (h : ∀ j, j < 64 → ckW bs W j = true) : ∀ n j, j < n → j < 64 → sched bs j = cw W j
 | 0, _, h0, _ => absurd h0 (Nat.not_lt_zero _)
 | n + 1, j, hj, h6 => by
  have h1 := h j h6
  unfold ckW at h1
  have h1 := eq_of_beq h1
  by_cases hl : j < 16
  ·rw [if_pos hl] at h1
   rw [sched_lt bs hl, h1]
  ·rw [if_neg hl] at h1
   rw [sched_ge bs (by omega), sched_of h n (j - 16) (by omega) (by omega), sched_of h n (j - 15) (by omega) (by omega), sched_of h n (j - 7) (by omega) (by omega), sched_of h n (j - 2) (by omega) (by omega), h1]
theorem rounds_of {bs : List UInt8} {W A E : List Nat} (hW : ∀ j, j < 64 → ckW bs W j = true) (hR : ∀ t, t < 64 → ckR W A E t = true) {s : S8} (h0 : s = stAt A E 0) : ∀ n, n ≤ 64 → s.rounds bs n = stAt A E n
 | 0, _ => h0
 | n + 1, hn => by
  have h1 := hR n (by omega)
  unfold ckR at h1
  rw [Bool.and_eq_true] at h1
  have h2 := eq_of_beq h1.1
  have h3 := eq_of_beq h1.2
  show (s.rounds bs n).round (kAt n) (sched bs n) = _
  rw [rounds_of hW hR h0 n (by omega), sched_of hW 64 n (by omega) (by omega)]
  unfold stAt S8.round S8.t1 S8.t2
  dsimp only
  rw [show n + 1 + 3 = n + 4 from rfl, show n + 1 + 2 = n + 3 from rfl, show n + 1 + 1 = n + 2 from rfl, h2, h3]
  rfl
theorem all_lt {p : Nat → Bool} {n : Nat} (h : (List.range n).all p = true) : ∀ j, j < n → p j = true := fun j hj => List.all_eq_true.1 h j (List.mem_range.2 hj)
theorem state_first (s : Nat → BitVec 32) : (stateBytes s).take 4 = be4 (s 0) := rfl
theorem sha_first {m : List UInt8} {W A E : List Nat} (hl : (padded m).length = 64) (hW : (List.range 64).all (ckW (padded m) W) = true) (hR : (List.range 64).all (ckR W A E) = true) (h0 : S8.of hAt = stAt A E 0) :
  (shaSum m).take 4 = be4 (hAt 0 + cw A 67) := by
 have h1 := rounds_of (all_lt hW) (all_lt hR) h0 64 (Nat.le_refl _)
 unfold shaSum
 rw [hl]
 have e : ((padded m).drop (64 * 0)).take 64 = padded m := by rw [Nat.mul_zero, List.drop_zero]; exact List.take_of_length_le (by omega)
 show (stateBytes (compress hAt (((padded m).drop (64 * 0)).take 64))).take 4 = _
 rw [e, state_first]
 unfold compress
 rw [h1]
 rfl
def genW1 : List Nat := [53489970, 859059510, 926431585, 1650680933, 1719664640, 0, 0, 0, 0, 0, 0, 0, 0, 0, 0, 136, 1786614579, 4267339718, 3534713682, 3903108226, 3195508958, 3437953131, 1062933915, 1250506843, 3872104009, 2380521901, 2776183261, 1261938835, 2347186378, 1621366450, 3590989228, 2142930931, 1484664542, 437249109, 644840048, 3484962498, 2142863595, 3329429917, 2707407794, 4133145523, 3442454176, 3564645495, 1572666886, 684377031, 2695374735, 94077868, 746060230, 982895306, 2166869857, 236788198, 4254056998, 1499419854, 2246294697, 3042552666, 1369516693, 201690947, 2308125692, 2162181841, 4068019160, 3707307393, 3003191854, 1898722745, 3314611478, 2174726847]
def genA1 : List Nat := [2773480762, 1013904242, 3144134277, 1779033703, 4281907583, 2079332763, 1678100047, 109249274, 1624810355, 1735388568, 2575303079, 1983809190, 3914268168, 1219514856, 1199430016, 662819054, 550908753, 3068353913, 2937124419, 1735351490, 3250058367, 3553208867, 3932085835, 1504061089, 2102747185, 3467041443, 177371118, 134227682, 196604381, 234977176, 3094209935, 1916321527, 1699883804, 2091693348, 3478250366, 2452432665, 3411465994, 3752121484, 3330120393, 4039538040, 2267985578, 2759434224, 1263658114, 291378510, 3637845329, 2226650291, 3887455510, 1876146260, 2929710820, 4225451528, 3423631831, 2880581021, 4274176126, 1171264493, 4131364087, 4232501287, 3670927927, 858494748, 2194617534, 3820099169, 4049654305, 1688779730, 706941398, 2818137959, 863962293, 1563864399, 1115674159, 1783929886]
def genE1 : List Nat := [1541459225, 528734635, 2600822924, 1359893119, 2616726484, 3865130560, 3522365260, 4109951957, 1595227483, 3720192286, 3423306360, 798922206, 2152895056, 3307528842, 479531941, 696791417, 3097521862, 1296830139, 3301636011, 3458099892, 2020533686, 389219251, 1379622049, 2307111467, 1732568206, 498837331, 3647842036, 2667866526, 3372161427, 3193111655, 4267743184, 4196559695, 1829880234, 286894938, 246067195, 2808432999, 1772067843, 1058790973, 3117198276, 1640256450, 3984375870, 258637521, 1014775986, 2304158114, 137889363, 118341826, 3337457604, 911073050, 134625000, 2904707690, 1614894066, 2962058599, 4078471533, 2614243876, 1143764325, 3437423532, 3219867136, 3926286153, 1682434855, 328472301, 617186966, 1171457154, 3858461200, 2735477809, 108512372, 150979858, 3449903884, 537992154]
set_option maxRecDepth 100000 in
theorem gen_first1 : (genesisOf id21).take 4 = be4 (hAt 0 + cw genA1 67) := sha_first (by kernel_rfl) (W := genW1) (A := genA1) (E := genE1) (by kernel_rfl) (by kernel_rfl) (by kernel_rfl)
def genW2 : List Nat := [56716911, 1952998770, 2147483648, 0, 0, 0, 0, 0, 0, 0, 0, 0, 0, 0, 0, 64, 4137332717, 2240841074, 2184635189, 1379300955, 2916941029, 4126297792, 3787789482, 1696581825, 2928206609, 2677587219, 3220682504, 4142487285, 591201448, 1667175590, 133800833, 2251106902, 1355438891, 962078272, 24748478, 1865618851, 51003583, 4080769480, 1284801090, 2215916302, 3571717511, 740109511, 1476295775, 1123016397, 2377064825, 783536270, 4162507214, 3084962361, 1049749630, 571408135, 2616843454, 2341915241, 1906289413, 1431086858, 649907347, 2590772820, 3081749006, 2049258889, 1651253881, 468418035, 1712284946, 1563591444, 1205309804, 54593377]
def genA2 : List Nat := [2773480762, 1013904242, 3144134277, 1779033703, 4285134524, 2993488045, 4145264789, 3413999547, 1451479187, 2946892396, 3248683191, 52921415, 1723046582, 3564323211, 673202750, 3832371693, 1889816508, 789927765, 2708352306, 1651016960, 3501832908, 4130768754, 1364790867, 3361377001, 3893996631, 623611887, 3259859231, 1881913532, 3447990619, 757197845, 2634048230, 1000366606, 4057818256, 853811257, 4123813510, 752757846, 3278242635, 2422789226, 3788293219, 1962914617, 1351747408, 1628408867, 2119040470, 972753025, 1491959069, 4084539615, 2475217066, 44004414, 2777780957, 3945136119, 3969083797, 1816964816, 4070816956, 727241949, 1083523980, 1636199406, 3370314742, 1996218769, 3495648968, 3107305295, 2091996350, 833398215, 1502445305, 4069317824, 2119678998, 1330586404, 3554464008, 4292134217]
def genE2 : List Nat := [1541459225, 528734635, 2600822924, 1359893119, 2619953425, 3314194525, 3659340515, 1184150529, 1735435114, 747044134, 1217007484, 1221445391, 3165652673, 3187712149, 1867210181, 1752166985, 4024624707, 2993677845, 3241645488, 2889303297, 2338640363, 1077893515, 2760300693, 2543058302, 2567278945, 1426068630, 327060048, 2316544292, 3731270977, 3911567780, 1171977514, 1825327013, 1664036471, 958600640, 2163731824, 3184754111, 4013919854, 1794382190, 3003910786, 4159924779, 3906111312, 434017558, 1746064408, 4162017669, 1239084747, 3497083422, 1765276048, 1706625534, 240807230, 2705265003, 1241270722, 120339949, 1292130148, 3527253576, 863229161, 301457623, 2067084696, 4222428087, 4049251326, 2593440068, 3526012497, 2968119091, 2674749216, 2646779997, 2678354807, 3835135962, 2023583856, 3272369946]
set_option maxRecDepth 100000 in
theorem gen_first2 : (genesisOf [97, 110, 111, 116, 104, 101, 114]).take 4 = be4 (hAt 0 + cw genA2 67) := sha_first (by kernel_rfl) (W := genW2) (A := genA2) (E := genE2) (by kernel_rfl) (by kernel_rfl) (by kernel_rfl)
theorem genesis_other : genesisOf id21 ≠ genesisOf [97, 110, 111, 116, 104, 101, 114] := fun e => by
 have h1 := gen_first1
 have h2 := gen_first2
 rw [e, h2] at h1
 have h3 : (be4 (hAt 0 + cw genA2 67) == be4 (hAt 0 + cw genA1 67)) = false := by kernel_rfl
 rw [h1] at h3
 simp at h3
end Go.Proofs.YtajnkbfcnmajoaaGreatDoor
/-
  PROVED HERE: what a claim over a base without them asks for beside it (XRow has the same: never build both); each says its own conditions.
-/
namespace Go.Proofs.YtajnkbfcnmajoaaGreatDoor
open Go.ChangeShapes Go.WideShapes Go.ChangeAt Go.RowKit Go.Joins Go.Deep
theorem laid_out : laidOutB Tryz.prog = true := by kernel_rfl
theorem own_knob : ownKnob Tryz.prog.godebug = none := by kernel_rfl
section
variable {H : Type} {enc : TypeId × Value → H} {P : Program} {W W' : World}
theorem trodAll_stays (hl : laidOutB P = true) {sp' : Nat → Bool} : ∀ {ts : List TypeId} {vs : List Value} {ds : List (DataW H)} {ps : List MemPlace}, (ts.all fun t => P.readableRec t && decide (t < P.types.size)) = true →
  DataW.TrodAll enc P W 0 (fun _ => true) true ts vs ds ps → (∀ p ∈ ps, W.sameAt W' p) → (∀ p ∈ ps, sp' p.block = true) → DataW.TrodAll enc P W' 0 sp' true ts vs ds ps
 | [], [], [], _, _, h, _, _ => h
 | t :: ts, v :: vs, d :: ds, ps, hr, h, hs, hp => by
  obtain ⟨p, q, h1, h2, rfl⟩ := h
  simp only [List.all_cons, Bool.and_eq_true, decide_eq_true_eq] at hr
  refine ⟨p, q, WideElems.Trod_stays hl hr.1.1 hr.1.2 h1 (fun x hx => hs x (by simp [hx])) (fun x hx => hp x (by simp [hx])), trodAll_stays hl (by simpa using hr.2) h2 (fun x hx => hs x (by simp [hx])) (fun x hx => hp x (by simp [hx])), rfl⟩
theorem post_of_below {f : Func} {s : ChangeSpec} {apart fresh handsOn again : Bool} {args : Array Value} {v : Value} {ds gs : List (DataW H)} {before pa pv : List MemPlace}
  (hW : DataW.Whole enc P f.params.toList s.vars apart W args.toList ds gs before)
  (hres : ∀ (b : Nat) (sp : Nat → Bool) (hd : Bool), DataW.TrodAll enc P W' b sp hd f.resultTypes.toList (v.resultList f.resultTypes.size) (s.fn H (ds ++ gs)).results [])
  (hargs : ∀ sp : Nat → Bool, (∀ p ∈ before, sp p.block = true) → DataW.TrodAll enc P W' 0 sp true f.params.toList args.toList (s.fn H (ds ++ gs)).args pa)
  (hvars : ∀ sp : Nat → Bool, (∀ p ∈ before, sp p.block = true) → DataW.TrodVars enc P W' sp s.vars (s.fn H (ds ++ gs)).vars pv)
  (hps : before = pa ++ pv) (hb : Below W.heap.size W W')
  (hok : ∀ (j : Nat) (t : TypeId) (r : Value), f.resultTypes[j]? = some t → (v.resultList f.resultTypes.size)[j]? = some r → Value.okWide P W' .any 0 t r) :
  s.post enc P f apart fresh handsOn again W args v W' := by
 have hlt : ∀ p ∈ before, p.block < W.heap.size := fun p hp => hW.lt p hp
 have hold : ∀ p ∈ before, (fun b => decide (b < W.heap.size)) p.block = true := fun p hp => by simpa using hlt p hp
 refine ⟨ds, gs, before, [], pa, pv, hW, hres _ _ _, hargs _ hold, hvars _ hold, World.keptBut_mono (fun p hp => ⟨hp, ?_⟩) (hb.frame (· ∈ before)), fun _ => ?_⟩
 ·rw [hps, List.mem_append] at hp
  exact Or.inr hp
 ·obtain ⟨_, _, _, _, _, hz, hn⟩ := hW
  refine ⟨hok, _, _, ([] ++ pa) ++ pv, ⟨[] ++ pa, pv, trodAll_append (hargs _ (fun _ _ => rfl)) (hres _ _ _), hvars _ (fun _ _ => rfl), rfl, ?_, ?_⟩, ?_⟩
  ·intro b off hp
   have hin : MemPlace.cell b off ∈ before := by rw [hps]; simpa using hp
   rw [hb.frozen (hlt _ hin)]
   exact hz b off hin
  ·intro ha
   have := hn ha
   rw [hps] at this
   simpa using this
  ·intro p hp _
   rw [hps]
   simpa using hp
theorem law_post {f : Func} {s : ChangeSpec} {apart fresh handsOn again : Bool} {args : Array Value} {tb : TypeId} {ds gs : List (DataW H)} {before : List MemPlace}
  (hl : laidOutB P = true) (hts : (f.params.toList.all fun t => P.readableRec t && decide (t < P.types.size)) = true) (hv : s.vars = []) (hrt : f.resultTypes = #[tb]) (htb : P.underlying tb = some .bool)
  (hW : DataW.Whole enc P f.params.toList s.vars apart W args.toList ds gs before)
  (hr : (s.fn H (ds ++ gs)).results = [.lit (.bool true)]) (ha : (s.fn H (ds ++ gs)).args = ds) (hva : (s.fn H (ds ++ gs)).vars = []) (hN : New W W') :
  s.post enc P f apart fresh handsOn again W args (.bool true) W' := by
 have hW' := hW
 obtain ⟨p, q, hA, hV, rfl, hfz, hnd⟩ := hW
 rw [hv] at hV
 have hq : gs = [] ∧ q = [] := by
  cases gs with
  | nil => exact ⟨rfl, hV⟩
  | cons _ _ => exact hV.elim
 obtain ⟨rfl, rfl⟩ := hq
 have hb : Below W.heap.size W W' := hN.below
 refine post_of_below (pa := p) (pv := []) hW' (fun _ _ _ => ?_) (fun sp hsp => ?_) (fun _ _ => ?_) rfl hb ?_
 ·rw [hr, hrt]; exact trodAll_cons_mk (shut_bool htb _) trodAll_mk0
 ·rw [ha]; exact trodAll_stays hl hts hA (fun x hx => hb.same (hW'.lt x (by simp [hx]))) (fun x hx => hsp x (by simp [hx]))
 ·rw [hva, hv]; rfl
 ·exact ok_one hrt rfl (okWide_bool_mk htb _)
end
end Go.Proofs.YtajnkbfcnmajoaaGreatDoor
