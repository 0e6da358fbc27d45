/- Walks of functions: what each asks and computes, as a plain predicate, and the contract from it. -/
import Derived.Test.YtnnbnljofklieaaDoorChecked
import Derived.Test.YtnnbnljofklieaaDoorPq1
import Derived.Test.YtnnbnljofklieaaDoorLib
import Derived.Test.YtnnbnljofklieaaDoorShelf
namespace Go.Proofs.YtnnbnljofklieaaDoor
open Go

theorem elT22 : ElemT Tryd.prog 22 9 1 16 := elemT_mk (i := Tryd.t9) (z := (.string (ByteArray.mk #[]))) (by kernel_rfl) (by kernel_rfl) (by kernel_rfl) (by kernel_rfl) Tryd.underlying22 Tryd.sizeOf9 (by decide) (by decide)
theorem elT64 : ElemT Tryd.prog 64 5 1 1 := elemT_mk (i := Tryd.t5) (z := (.int .u8 0)) (by kernel_rfl) (by kernel_rfl) (by kernel_rfl) (by kernel_rfl) Tryd.underlying64 Tryd.sizeOf5 (by decide) (by decide)
def patch_Apply_p (a : (List ByteArray)) (h : (List S_patch_Hunk)) (Q : (List ByteArray) → PErr → Prop) : Prop :=
  ((a.length ≤ 9223372036854775807) → ((h.length ≤ 9223372036854775807) → (∃ (I1292 : (List ByteArray) → Int → Int → Prop) (m1293 : (List ByteArray) → Int → Int → Nat), (I1292 ([] : List ByteArray) (0 : Int) (0 : Int)) ∧ (∀ (out646 : (List ByteArray)) (end_651 : Int) (s653 : Int), (I1292 out646 end_651 s653) → (out646.length ≤ 9223372036854775807) → (inR .i64 end_651) → (inR .i64 s653) → (((s653 < (h.length : Int)) → ((inL h s653) ∧ ((inR .i64 ((lget h s653).At)) → ((inR .i64 ((lget h s653).Del)) → ((inR .i64 ((lget h s653).To)) → ((inR .i64 ((lget h s653).Add)) → ((((lget h s653).Lines).length ≤ 9223372036854775807) → ((inR .i64 ((out646.length : Int) - end_651)) ∧ (patch_form_p (lget h s653) end_651 ((out646.length : Int) - end_651) (fun (r1343 : Int) => ((inR .i64 r1343) → (∃ k1361 : Int → Prop, (∀ (e1359 : Int), k1361 e1359 → (inR .i64 e1359) → (((¬ (e1359 = (0 : Int))) → Q ([] : List ByteArray) (PErr.fault (ByteArray.mk #[104, 117, 110, 107]) s653 e1359)) ∧ ((e1359 = (0 : Int)) → ((0 ≤ end_651 ∧ end_651 ≤ ((lget h s653).At) ∧ ((lget h s653).At) ≤ (a.length : Int)) ∧ (((out646.length + ((a.take ((lget h s653).At).toNat).drop end_651.toNat).length) * 16 ≤ 140737488355328) ∧ (∃ (I1758 : (List ByteArray) → Int → Prop) (m1759 : (List ByteArray) → Int → Nat), (I1758 (out646 ++ ((a.take ((lget h s653).At).toNat).drop end_651.toNat)) (0 : Int)) ∧ (∀ (out1593 : (List ByteArray)) (s1598 : Int), (I1758 out1593 s1598) → (out1593.length ≤ 9223372036854775807) → (inR .i64 s1598) → (((s1598 < (((lget h s653).Lines).length : Int)) → (∃ k1847 : (List ByteArray) → Prop, (∀ (out1842 : (List ByteArray)), k1847 out1842 → (out1842.length ≤ 9223372036854775807) → ((inR .i64 (s1598 + (1 : Int))) ∧ ((I1758 out1842 (s1598 + (1 : Int))) ∧ m1759 out1842 (s1598 + (1 : Int)) < m1759 out1593 s1598))) ∧ ((inL ((lget h s653).Lines) s1598) ∧ ((inR .i64 ((lget ((lget h s653).Lines) s1598).Op)) → ((((lget ((lget h s653).Lines) s1598).Line).size ≤ maxLen) → (((¬ (((lget ((lget h s653).Lines) s1598).Op) = (2 : Int))) → (((out1593.length + ([(lget ((lget h s653).Lines) s1598).Line]).length) * 16 ≤ 140737488355328) ∧ (k1847 (out1593 ++ ([(lget ((lget h s653).Lines) s1598).Line]))))) ∧ ((((lget ((lget h s653).Lines) s1598).Op) = (2 : Int)) → (k1847 out1593)))))))) ∧ ((¬ (s1598 < (((lget h s653).Lines).length : Int))) → ((inR .i64 (((lget h s653).At) + ((lget h s653).Del))) ∧ ((inR .i64 (s653 + (1 : Int))) ∧ ((I1292 out1593 (((lget h s653).At) + ((lget h s653).Del)) (s653 + (1 : Int))) ∧ m1293 out1593 (((lget h s653).At) + ((lget h s653).Del)) (s653 + (1 : Int)) < m1293 out646 end_651 s653)))))))))))) ∧ (((r1343 = (0 : Int)) → (patch_fits_p a (lget h s653) (fun (r1386 : Int) => ((inR .i64 r1386) → (k1361 r1386))))) ∧ ((¬ (r1343 = (0 : Int))) → (k1361 r1343))))))))))))))) ∧ ((¬ (s653 < (h.length : Int))) → ((0 ≤ end_651 ∧ end_651 ≤ (a.length : Int)) ∧ (((out646.length + (a.drop end_651.toNat).length) * 16 ≤ 140737488355328) ∧ (slices_Clip_string_string_p (out646 ++ (a.drop end_651.toNat)) (fun (r1962 : (List ByteArray)) => ((r1962.length ≤ 9223372036854775807) → Q r1962 PErr.nil)))))))))))
set_option maxRecDepth 20000 in
set_option maxHeartbeats 4000000 in
theorem patch_Apply_w {X : List Nat} {w : World} {a : (List ByteArray)} {h : (List S_patch_Hunk)} {aa1 : Option Addr} {ca2 : Nat} {ah4 : Option Addr} {ch5 : Nat} {Q : (List ByteArray) → PErr → Prop} (hX0 : Old X w) (ha3 : Sl rStr X w aa1 ca2 a) (hh6 : Sl r_patch_Hunk X w ah4 ch5 h) (hp : patch_Apply_p a h Q) :
    Calls Tryd.prog 15 #[(.slice aa1 a.length ca2), (.slice ah4 h.length ch5)] w (Ret fun v w' => ∃ (r0 : (List ByteArray)) (r1 : PErr), Q r0 r1 ∧ Evo [] w w' ∧ ∃ (aq01 : Option Addr) (cq02 : Nat) (vq14 : Value), v = .tuple #[(.slice aq01 r0.length cq02), vq14] ∧ Sl rStr X w' aq01 cq02 r0 ∧ (rErr 74 77 79).ok X w' ([vq14]) r1) := by
  have hXo := hX0
  have E0 : Evo [] w w := RB.refl _ _ _
  have hS : Sub X X := Sub.refl _
  unfold patch_Apply_p at hp
  refine enter_ Tryd.func15 rfl 75 [(0, (.slice aa1 a.length ca2)), (1, (.slice ah4 h.length ch5))] (by kernel_rfl) (fun Qe hQ => ?_)
  replace hp := hp (Sl.len ha3)
  replace hp := hp (Sl.len hh6)
  refine seq_ (fun _ K7 => ?_)
  refine reg_ ?_
  refine sq (o_pv (.slice none 0 0) rfl (by kernel_rfl) ?_)
  refine sq (o_pv .nilIface rfl (by kernel_rfl) ?_)
  refine nil_ ?_
  refine then_normal (K7 _ _ _ _ ?_)
  refine seq_ (fun _ K8 => ?_)
  refine reg_ ?_
  refine sq (o_pv (.slice none 0 0) rfl (by kernel_rfl) ?_)
  refine nil_ ?_
  refine then_normal (K8 _ _ _ _ ?_)
  refine seq_ (fun _ K9 => ?_)
  refine reg_ ?_
  refine sq (o_pv (.int .i64 (0 : Int)) rfl (by kernel_rfl) ?_)
  refine nil_ ?_
  refine then_normal (K9 _ _ _ _ ?_)
  refine seq_ (fun _ K10 => ?_)
  refine seq_ (fun _ K11 => ?_)
  refine reg_ ?_
  refine sq (o_pv (.slice ah4 h.length ch5) rfl (by kernel_rfl) ?_)
  refine sq (o_pv (.int .i64 (h.length : Int)) rfl (by kernel_rfl) ?_)
  refine sq (o_pv (.int .i64 (0 : Int)) rfl (by kernel_rfl) ?_)
  refine nil_ ?_
  refine then_normal (K11 _ _ _ _ ?_)
  refine wp_block ?_
  obtain ⟨I1292, m1293, hI1294, hp⟩ := hp
  refine loop_ 590295810358705625072 (fun kq lq w1296 => ∃ (X1297 : List Nat) (out646 : (List ByteArray)) (end_651 : Int) (s653 : Int) (a647 : Option Addr) (n648 : Nat) (c649 : Nat), (lq = [(6, (.slice a647 n648 c649)), (7, (.int .i64 end_651)), (15, (.int .i64 s653))]) ∧ (kq = m1293 out646 end_651 s653) ∧ (Evo [] w w1296) ∧ (Old X1297 w1296) ∧ (Sub X X1297) ∧ (Sl rStr X1297 w1296 aa1 ca2 a) ∧ (Sl r_patch_Hunk X1297 w1296 ah4 ch5 h) ∧ (OS rStr ([]) w.heap.size X1297 w1296 9 a647 n648 c649 out646) ∧ (inR .i64 end_651) ∧ (inR .i64 s653) ∧ (I1292 out646 end_651 s653)) (m1293 ([] : List ByteArray) (0 : Int) (0 : Int)) [(6, (.slice none 0 0)), (7, (.int .i64 (0 : Int))), (15, (.int .i64 (0 : Int)))] (vs_cons (by kernel_rfl) (vs_cons (by kernel_rfl) (vs_cons (by kernel_rfl) vs_nil))) ⟨X, ([] : List ByteArray), (0 : Int), (0 : Int), none, 0, 0, rfl, rfl, E0, hXo, hS, ha3, hh6, (OS.nil _ _ _ _), (by decide : inR .i64 (0 : Int)), (by decide : inR .i64 (0 : Int)), hI1294⟩ ?_
  rintro _ _ w1296 g1299 ⟨X1297, out646, end_651, s653, a647, n648, c649, rfl, rfl, E1302, hXo1303, hS1304, ha1305, hh1306, O650, rend_652, rs654, hI1295⟩ Kl1300 hA1301
  replace hp := hp out646 end_651 s653 hI1295 (OS.len O650) rend_652 rs654
  refine seq_ (fun _ K1307 => ?_)
  refine reg_ ?_
  refine sq (o_pv (.bool (decide (s653 < (h.length : Int)))) rfl (by kernel_rfl) ?_)
  refine nil_ ?_
  refine then_normal (K1307 _ _ _ _ ?_)
  refine seq_ (fun _ K1308 => ?_)
  refine cond_d (s653 < (h.length : Int)) (by kernel_rfl) (fun h1309 => ?_) (fun h1309 => ?_)
  ·
    replace hp := hp.1 h1309
    refine wp_skip ?_
    refine then_normal (K1308 _ _ _ _ ?_)
    refine seq_ (fun _ K1310 => ?_)
    refine wp_block ?_
    refine seq_ (fun _ K1311 => ?_)
    refine reg_ ?_
    refine sq (o_pv (.int .i64 s653) rfl (by kernel_rfl) ?_)
    obtain ⟨h1312, hp⟩ := hp
    obtain ⟨b1313, o1314, cs1315, ha1316, nx1317, lt1318, ok1319, hc1320⟩ := Sl.atI hh1306 s653 h1312
    obtain ⟨aeLines1325, ceLines1326, rfl, reAt1321, reDel1322, reTo1323, reAdd1324, heLines1327⟩ := r_patch_Hunk_open ok1319
    replace hp := hp reAt1321
    replace hp := hp reDel1322
    replace hp := hp reTo1323
    replace hp := hp reAdd1324
    replace hp := hp (Sl.len heLines1327)
    refine sq (o_pv (.pointer (some ⟨b1313, o1314 + s653.toNat * 5, none⟩)) rfl (x_ixA (m := h.length) (c := ch5) (k := .i64) (i := s653) Tryd.underlying31 Tryd.sizeOf50 (by rw [← ha1316]; kernel_rfl) (by kernel_rfl) h1312) ?_)
    refine sq (o_pv (.agg #[(.int .i64 ((lget h s653).At)), (.int .i64 ((lget h s653).Del)), (.int .i64 ((lget h s653).To)), (.int .i64 ((lget h s653).Add)), (.slice aeLines1325 (((lget h s653).Lines).length) ceLines1326)]) rfl (x_loadN [(.int .i64 ((lget h s653).At)), (.int .i64 ((lget h s653).Del)), (.int .i64 ((lget h s653).To)), (.int .i64 ((lget h s653).Add)), (.slice aeLines1325 (((lget h s653).Lines).length) ceLines1326)] (by kernel_rfl) Tryd.isAgg50 Tryd.sizeOf50 hc1320) ?_)
    refine sq (o_newX [(.int .i64 (0 : Int)), (.int .i64 (0 : Int)), (.int .i64 (0 : Int)), (.int .i64 (0 : Int)), (.slice none 0 0)] 50 (X := X1297) (B := w.heap.size) E1302.size rfl (by kernel_rfl) ?_)
    intro b1328 w1329 X1330 s1331 k1332 n1333
    have p1334 := n1333 _ (OS.old O650)
    refine sq (o_pv (.int .i64 s653) rfl (by kernel_rfl) ?_)
    have O1335 := (OS.step0 O650 s1331)
    have E1336 := (Evo.then0 E1302 (Step.evo s1331))
    refine sq (o_stB (o := 0) (v := (.agg #[(.int .i64 ((lget h s653).At)), (.int .i64 ((lget h s653).Del)), (.int .i64 ((lget h s653).To)), (.int .i64 ((lget h s653).Add)), (.slice aeLines1325 (((lget h s653).Lines).length) ceLines1326)])) [(.int .i64 ((lget h s653).At)), (.int .i64 ((lget h s653).Del)), (.int .i64 ((lget h s653).To)), (.int .i64 ((lget h s653).Add)), (.slice aeLines1325 (((lget h s653).Lines).length) ceLines1326)] rfl k1332 (by kernel_rfl) (by kernel_rfl) Tryd.sizeOf50 rfl rfl rfl ?_)
    intro w1337 s1338 k1339
    refine nil_ ?_
    refine then_normal (K1311 _ _ _ _ ?_)
    refine seq_ (fun _ K1340 => ?_)
    refine reg_ ?_
    refine sq (o_pv (.agg #[(.int .i64 ((lget h s653).At)), (.int .i64 ((lget h s653).Del)), (.int .i64 ((lget h s653).To)), (.int .i64 ((lget h s653).Add)), (.slice aeLines1325 (((lget h s653).Lines).length) ceLines1326)]) rfl (x_loadN [(.int .i64 ((lget h s653).At)), (.int .i64 ((lget h s653).Del)), (.int .i64 ((lget h s653).To)), (.int .i64 ((lget h s653).Add)), (.slice aeLines1325 (((lget h s653).Lines).length) ceLines1326)] (by kernel_rfl) Tryd.isAgg50 Tryd.sizeOf50 (k1339.2.1.cells' 0 rfl)) ?_)
    refine sq (o_pv (.int .i64 end_651) rfl (by kernel_rfl) ?_)
    refine sq (o_pv (.slice a647 n648 c649) rfl (by kernel_rfl) ?_)
    refine sq (o_pv (.int .i64 (out646.length : Int)) rfl (by rw [← show n648 = out646.length from O1335.1]; kernel_rfl) ?_)
    refine sq (o_pv (.int .i64 end_651) rfl (by kernel_rfl) ?_)
    obtain ⟨h1341, hp⟩ := hp
    refine sq (o_pv (.int .i64 ((out646.length : Int) - end_651)) rfl (x_sub2 (k := .i64) (a := (out646.length : Int)) (b := end_651) ((out646.length : Int) - end_651) (by kernel_rfl) (by kernel_rfl) (wrap_inR h1341)) ?_)
    have heLines1342 := (Sl.step (Sl.step heLines1327 s1331) s1338)
    refine sq (o_call 31 #[(.agg #[(.int .i64 ((lget h s653).At)), (.int .i64 ((lget h s653).Del)), (.int .i64 ((lget h s653).To)), (.int .i64 ((lget h s653).Add)), (.slice aeLines1325 ((lget h s653).Lines).length ceLines1326)]), (.int .i64 end_651), (.int .i64 ((out646.length : Int) - end_651))] rfl (x_call Tryd.call31 (by rw []; kernel_rfl)) (patch_form_w (X := []) (h := (lget h s653)) (end_ := end_651) (shift := (out646.length : Int) - end_651) (Old.nil _) reAt1321 reDel1322 reTo1323 reAdd1324 (Sl.less heLines1342 (Sub.nil _)) rend_652 h1341 hp) ?_)
    rintro _ w1344 ⟨r1343, hp, e1345, rfl, rr1347⟩
    have s1346 := Step.of0 X1330 e1345
    replace hp := hp rr1347
    refine sq (o_pv (.int .i64 r1343) rfl (by kernel_rfl) ?_)
    refine nil_ ?_
    refine then_normal (K1340 _ _ _ _ ?_)
    refine seq_ (fun _ K1348 => ?_)
    refine seq_ (fun _ K1349 => ?_)
    refine reg_ ?_
    refine sq (o_pv (.int .i64 r1343) rfl (by kernel_rfl) ?_)
    refine sq (o_pv (.bool (decide (r1343 = (0 : Int)))) rfl (by kernel_rfl) ?_)
    refine nil_ ?_
    refine then_normal (K1349 _ _ _ _ ?_)
    have E1368 := (Evo.then0 (Evo.thenW E1336 (Step.evo s1338) k1332.2.2) e1345)
    have hXo1369 := (Old.step (Old.step (Old.step hXo1303 s1331) s1338) s1346)
    have hS1370 := (Sub.trans (Sub.trans (Sub.trans hS1304 (Step.up s1331)) (Step.up s1338)) (Step.up s1346))
    have ha1371 := (Sl.step (Sl.step (Sl.step ha1305 s1331) s1338) s1346)
    have hh1372 := (Sl.step (Sl.step (Sl.step hh1306 s1331) s1338) s1346)
    have O1373 := (OS.step0 (OS.step O1335 s1338 p1334) s1346)
    have heLines1374 := (Sl.step heLines1342 s1346)
    have k1375 := (OB.step0 k1339 s1346)
    obtain ⟨k1361, hk1362, hp⟩ := hp
    refine ground_ ?_
    refine join_ 3758097408 (fun lq w1363 => ∃ (X1364 : List Nat) (e1359 : Int), (lq = [(10, (.int .i64 e1359))]) ∧ (Evo [] w w1363) ∧ (Old X1364 w1363) ∧ (Sub X X1364) ∧ (Sl rStr X1364 w1363 aa1 ca2 a) ∧ (OS rStr ([]) w.heap.size X1364 w1363 9 a647 n648 c649 out646) ∧ (Sl r_patch_Hunk X1364 w1363 ah4 ch5 h) ∧ (Sl r_diff_Edit X1364 w1363 aeLines1325 ceLines1326 ((lget h s653).Lines)) ∧ (OB ([]) w.heap.size X1364 w1363 b1328 [(.int .i64 ((lget h s653).At)), (.int .i64 ((lget h s653).Del)), (.int .i64 ((lget h s653).To)), (.int .i64 ((lget h s653).Add)), (.slice aeLines1325 (((lget h s653).Lines).length) ceLines1326)] 50) ∧ (Ap (blkL a647) ([b1328])) ∧ (inR .i64 e1359) ∧ (k1361 e1359)) (fun Kj1365 hJ1366 => ?_) ?_
    ·
      refine cond_d (r1343 = (0 : Int)) (by kernel_rfl) (fun h1385 => ?_) (fun h1385 => ?_)
      ·
        replace hp := hp.1 h1385
        refine reg_ ?_
        refine sq (o_pv (.slice aa1 a.length ca2) rfl (by kernel_rfl) ?_)
        refine sq (o_pv (.agg #[(.int .i64 ((lget h s653).At)), (.int .i64 ((lget h s653).Del)), (.int .i64 ((lget h s653).To)), (.int .i64 ((lget h s653).Add)), (.slice aeLines1325 (((lget h s653).Lines).length) ceLines1326)]) rfl (x_loadN [(.int .i64 ((lget h s653).At)), (.int .i64 ((lget h s653).Del)), (.int .i64 ((lget h s653).To)), (.int .i64 ((lget h s653).Add)), (.slice aeLines1325 (((lget h s653).Lines).length) ceLines1326)] (by kernel_rfl) Tryd.isAgg50 Tryd.sizeOf50 (k1375.2.1.cells' 0 rfl)) ?_)
        refine sq (o_call 32 #[(.slice aa1 a.length ca2), (.agg #[(.int .i64 ((lget h s653).At)), (.int .i64 ((lget h s653).Del)), (.int .i64 ((lget h s653).To)), (.int .i64 ((lget h s653).Add)), (.slice aeLines1325 ((lget h s653).Lines).length ceLines1326)])] rfl (x_call Tryd.call32 (by rw []; kernel_rfl)) (patch_fits_w (X := []) (a := a) (h := (lget h s653)) (Old.nil _) (Sl.less ha1371 (Sub.nil _)) reAt1321 reDel1322 reTo1323 reAdd1324 (Sl.less heLines1374 (Sub.nil _)) hp) ?_)
        rintro _ w1387 ⟨r1386, hp, e1388, rfl, rr1390⟩
        have s1389 := Step.of0 X1330 e1388
        replace hp := hp rr1390
        refine sq (o_pv (.int .i64 r1386) rfl (by kernel_rfl) ?_)
        refine nil_ ?_
        have E1391 := (Evo.then0 E1368 e1388)
        have hXo1392 := (Old.step hXo1369 s1389)
        have hS1393 := (Sub.trans hS1370 (Step.up s1389))
        have ha1394 := (Sl.step ha1371 s1389)
        have O1395 := (OS.step0 O1373 s1389)
        have hh1396 := (Sl.step hh1372 s1389)
        have heLines1397 := (Sl.step heLines1374 s1389)
        have k1398 := (OB.step0 k1375 s1389)
        refine then_normal (hJ1366 _ _ _ ⟨[(10, (.int .i64 r1386))], fit_mk (fun _ _ => rfl) (by kernel_rfl) (vs_cons (by kernel_rfl) vs_nil), ?_⟩)
        exact ⟨X1330, r1386, rfl, E1391, hXo1392, hS1393, ha1394, O1395, hh1396, heLines1397, k1398, p1334, rr1390, hp⟩
      ·
        replace hp := hp.2 h1385
        refine wp_skip ?_
        refine then_normal (hJ1366 _ _ _ ⟨[(10, (.int .i64 r1343))], fit_mk (fun _ _ => rfl) (by kernel_rfl) (vs_cons (by kernel_rfl) vs_nil), ?_⟩)
        exact ⟨X1330, r1343, rfl, E1368, hXo1369, hS1370, ha1371, O1373, hh1372, heLines1374, k1375, p1334, rr1347, hp⟩
    ·
      rintro _ w1363 g1399 ⟨X1364, e1359, rfl, E1376, hXo1377, hS1378, ha1379, O1380, hh1381, heLines1382, k1383, p1384, re1360, hv1367⟩
      replace hp := hk1362 e1359 hv1367 re1360
      refine then_normal (K1348 _ _ _ _ ?_)
      refine seq_ (fun _ K1400 => ?_)
      refine seq_ (fun _ K1401 => ?_)
      refine reg_ ?_
      refine sq (o_pv (.int .i64 e1359) rfl (by kernel_rfl) ?_)
      refine sq (o_pv (.bool (!decide (e1359 = (0 : Int)))) rfl (by kernel_rfl) ?_)
      refine nil_ ?_
      refine then_normal (K1401 _ _ _ _ ?_)
      refine cond_nd (e1359 = (0 : Int)) (by kernel_rfl) (fun h1402 => ?_) (fun h1402 => ?_)
      ·
        replace hp := hp.1 h1402
        refine seq_ (fun _ K1403 => ?_)
        refine reg_ ?_
        refine sq (o_pv (.int .i64 s653) rfl (by kernel_rfl) ?_)
        refine sq (o_pv (.int .i64 e1359) rfl (by kernel_rfl) ?_)
        refine sq (o_pv (.iface 74 (.int .i64 e1359)) rfl (by kernel_rfl) ?_)
        refine sq (o_pv (.agg #[(.string (ByteArray.mk #[104, 117, 110, 107])), (.int .i64 s653), (.iface 74 (.int .i64 e1359))]) rfl (by kernel_rfl) ?_)
        refine sq (o_newX [(.string (ByteArray.mk #[104, 117, 110, 107])), (.int .i64 s653), (.iface 74 (.int .i64 e1359))] 79 (X := X1364) (B := w.heap.size) E1376.size rfl (by kernel_rfl) ?_)
        intro b1404 w1405 X1406 s1407 k1408 n1409
        have p1410 := n1409 _ (OS.old O1380)
        have p1411 := n1409 _ (OB.old k1383)
        refine sq (o_pv (.iface 77 (.pointer (some ⟨b1404, 0, none⟩))) rfl (by kernel_rfl) ?_)
        refine sq (o_pv (.slice none 0 0) rfl (by kernel_rfl) ?_)
        refine sq (o_pv (.iface 77 (.pointer (some ⟨b1404, 0, none⟩))) rfl (by kernel_rfl) ?_)
        refine nil_ ?_
        refine then_normal (K1403 _ _ _ _ ?_)
        refine wp_ret ?_
        refine then_ret ?_
        refine blk_ret ?_
        refine then_ret ?_
        refine then_ret ?_
        refine blk_ret ?_
        refine then_ret ?_
        have E1412 := (Evo.then0 E1376 (Step.evo s1407))
        refine end_ret hQ (.tuple #[(.slice none 0 0), (.iface 77 (.pointer (some ⟨b1404, 0, none⟩)))]) (by kernel_rfl) ?_
        exact ⟨([] : List ByteArray), (PErr.fault (ByteArray.mk #[104, 117, 110, 107]) s653 e1359), hp, E1412, none, 0, (.iface 77 (.pointer (some ⟨b1404, 0, none⟩))), rfl, Sl.nil, (rErr_fault (OB.notin k1408 hX0) k1408.2.1 (by decide : (ByteArray.mk #[104, 117, 110, 107]).size ≤ maxLen) rs654 re1360)⟩
      ·
        replace hp := hp.2 h1402
        refine wp_skip ?_
        refine then_normal (K1400 _ _ _ _ ?_)
        refine seq_ (fun _ K1413 => ?_)
        refine reg_ ?_
        refine sq (o_pv (.slice a647 n648 c649) rfl (by kernel_rfl) ?_)
        refine sq (o_pv (.slice aa1 a.length ca2) rfl (by kernel_rfl) ?_)
        refine sq (o_pv (.int .i64 end_651) rfl (by kernel_rfl) ?_)
        refine sq (o_pv (.pointer (some ⟨b1328, 0, none⟩)) rfl (by kernel_rfl) ?_)
        refine sq (o_pv (.int .i64 ((lget h s653).At)) rfl (x_load1 (by kernel_rfl) Tryd.isAgg3 (k1383.2.1.cell' 0 rfl)) ?_)
        obtain ⟨h1417, hp⟩ := hp
        refine sq (o_slice (R := rStr) (X := X1364) (L := a) end_651.toNat (((lget h s653).At).toNat) ((a.take ((lget h s653).At).toNat).drop end_651.toNat) rfl Tryd.underlying22 Tryd.sizeOf9 ha1379 (by kernel_rfl) rfl (.inr ⟨.i64, by rw [show ((end_651.toNat : Nat) : Int) = end_651 from by omega]; kernel_rfl⟩) (.inr ⟨.i64, by rw [show ((((lget h s653).At).toNat : Nat) : Int) = (lget h s653).At from by omega]; kernel_rfl⟩) (by omega) (by omega) rfl ?_)
        intro a1414 c1415 h1416
        obtain ⟨h1418, hp⟩ := hp
        refine sq (o_appX (R := rStr) (X := X1364) (B := w.heap.size) (L := out646) (M := (a.take ((lget h s653).At).toNat).drop end_651.toNat) rfl elT22 rfl E1376.size O1380 (Sl.src h1416) rfl (by kernel_rfl) (by kernel_rfl) h1418 ?_)
        intro a1419 n1420 c1421 w1422 X1423 s1424 O1425 gr1426
        have p1427 := gr1426 _ (Ap.symm p1384) (OB.old k1383)
        refine sq (o_pv (.slice a1419 n1420 c1421) rfl (by kernel_rfl) ?_)
        refine nil_ ?_
        refine then_normal (K1413 _ _ _ _ ?_)
        refine seq_ (fun _ K1428 => ?_)
        refine seq_ (fun _ K1429 => ?_)
        refine reg_ ?_
        refine sq (o_pv (.pointer (some ⟨b1328, 4, none⟩)) rfl (by kernel_rfl) ?_)
        have k1430 := (OB.step k1383 s1424 (Ap.symm p1384))
        refine sq (o_pv (.slice aeLines1325 (((lget h s653).Lines).length) ceLines1326) rfl (x_load1 (by kernel_rfl) Tryd.isAgg33 (k1430.2.1.cell' 4 rfl)) ?_)
        refine sq (o_pv (.int .i64 (((lget h s653).Lines).length : Int)) rfl (by kernel_rfl) ?_)
        refine sq (o_pv (.int .i64 (0 : Int)) rfl (by kernel_rfl) ?_)
        refine nil_ ?_
        refine then_normal (K1429 _ _ _ _ ?_)
        refine wp_block ?_
        have E1768 := (Evo.thenW E1376 (Step.evo s1424) O1380.2.2)
        have hXo1769 := (Old.step hXo1377 s1424)
        have hS1770 := (Sub.trans hS1378 (Step.up s1424))
        have ha1771 := (Sl.step ha1379 s1424)
        have hh1772 := (Sl.step hh1381 s1424)
        have heLines1773 := (Sl.step heLines1382 s1424)
        have h1774 := (Sl.step h1416 s1424)
        obtain ⟨I1758, m1759, hI1760, hp⟩ := hp
        refine loop_ 9222246136947937344 (fun kq lq w1762 => ∃ (X1763 : List Nat) (out1593 : (List ByteArray)) (s1598 : Int) (a1594 : Option Addr) (n1595 : Nat) (c1596 : Nat), (lq = [(6, (.slice a1594 n1595 c1596)), (50, (.int .i64 s1598))]) ∧ (kq = m1759 out1593 s1598) ∧ (Evo [] w w1762) ∧ (Old X1763 w1762) ∧ (Sub X X1763) ∧ (Sl rStr X1763 w1762 aa1 ca2 a) ∧ (Sl r_patch_Hunk X1763 w1762 ah4 ch5 h) ∧ (Sl r_diff_Edit X1763 w1762 aeLines1325 ceLines1326 ((lget h s653).Lines)) ∧ (OB ([]) w.heap.size X1763 w1762 b1328 [(.int .i64 ((lget h s653).At)), (.int .i64 ((lget h s653).Del)), (.int .i64 ((lget h s653).To)), (.int .i64 ((lget h s653).Add)), (.slice aeLines1325 (((lget h s653).Lines).length) ceLines1326)] 50) ∧ (OS rStr ([]) w.heap.size X1763 w1762 9 a1594 n1595 c1596 out1593) ∧ (Ap ([b1328]) (blkL a1594)) ∧ (inR .i64 s1598) ∧ (I1758 out1593 s1598)) (m1759 (out646 ++ ((a.take ((lget h s653).At).toNat).drop end_651.toNat)) (0 : Int)) [(6, (.slice a1419 n1420 c1421)), (50, (.int .i64 (0 : Int)))] (vs_cons (by kernel_rfl) (vs_cons (by kernel_rfl) vs_nil)) ⟨X1423, (out646 ++ ((a.take ((lget h s653).At).toNat).drop end_651.toNat)), (0 : Int), a1419, n1420, c1421, rfl, rfl, E1768, hXo1769, hS1770, ha1771, hh1772, heLines1773, k1430, O1425, p1427, (by decide : inR .i64 (0 : Int)), hI1760⟩ ?_
        rintro _ _ w1762 g1765 ⟨X1763, out1593, s1598, a1594, n1595, c1596, rfl, rfl, E1775, hXo1776, hS1777, ha1778, hh1779, heLines1780, k1781, O1597, p1782, rs1599, hI1761⟩ Kl1766 hA1767
        replace hp := hp out1593 s1598 hI1761 (OS.len O1597) rs1599
        refine seq_ (fun _ K1783 => ?_)
        refine reg_ ?_
        refine sq (o_pv (.bool (decide (s1598 < (((lget h s653).Lines).length : Int)))) rfl (by kernel_rfl) ?_)
        refine nil_ ?_
        refine then_normal (K1783 _ _ _ _ ?_)
        refine seq_ (fun _ K1784 => ?_)
        refine cond_d (s1598 < (((lget h s653).Lines).length : Int)) (by kernel_rfl) (fun h1785 => ?_) (fun h1785 => ?_)
        ·
          replace hp := hp.1 h1785
          refine wp_skip ?_
          refine then_normal (K1784 _ _ _ _ ?_)
          refine seq_ (fun _ K1786 => ?_)
          obtain ⟨k1847, hk1848, hp⟩ := hp
          refine ground_ ?_
          refine join_ 4607182418800021568 (fun lq w1849 => ∃ (X1850 : List Nat) (out1842 : (List ByteArray)) (a1843 : Option Addr) (n1844 : Nat) (c1845 : Nat), (lq = [(6, (.slice a1843 n1844 c1845))]) ∧ (Evo [] w w1849) ∧ (Old X1850 w1849) ∧ (Sub X X1850) ∧ (Sl rStr X1850 w1849 aa1 ca2 a) ∧ (Sl r_patch_Hunk X1850 w1849 ah4 ch5 h) ∧ (Sl r_diff_Edit X1850 w1849 aeLines1325 ceLines1326 ((lget h s653).Lines)) ∧ (OB ([]) w.heap.size X1850 w1849 b1328 [(.int .i64 ((lget h s653).At)), (.int .i64 ((lget h s653).Del)), (.int .i64 ((lget h s653).To)), (.int .i64 ((lget h s653).Add)), (.slice aeLines1325 (((lget h s653).Lines).length) ceLines1326)] 50) ∧ (OS rStr ([]) w.heap.size X1850 w1849 9 a1843 n1844 c1845 out1842) ∧ (Ap ([b1328]) (blkL a1843)) ∧ (k1847 out1842)) (fun Kj1851 hJ1852 => ?_) ?_
          ·
            refine wp_block ?_
            refine seq_ (fun _ K1862 => ?_)
            refine reg_ ?_
            obtain ⟨h1863, hp⟩ := hp
            obtain ⟨b1864, o1865, cs1866, ha1867, nx1868, lt1869, ok1870, hc1871⟩ := Sl.atI heLines1780 s1598 h1863
            obtain ⟨rfl, reOp1872, zeLine1873⟩ := r_diff_Edit_open ok1870
            replace hp := hp reOp1872
            replace hp := hp zeLine1873
            refine sq (o_pv (.pointer (some ⟨b1864, o1865 + s1598.toNat * 2, none⟩)) rfl (x_ixA (m := ((lget h s653).Lines).length) (c := ceLines1326) (k := .i64) (i := s1598) Tryd.underlying33 Tryd.sizeOf48 (by rw [← ha1867]; kernel_rfl) (by kernel_rfl) h1863) ?_)
            refine sq (o_pv (.agg #[(.int .i64 ((lget ((lget h s653).Lines) s1598).Op)), (.string ((lget ((lget h s653).Lines) s1598).Line))]) rfl (x_loadN [(.int .i64 ((lget ((lget h s653).Lines) s1598).Op)), (.string ((lget ((lget h s653).Lines) s1598).Line))] (by kernel_rfl) Tryd.isAgg48 Tryd.sizeOf48 hc1871) ?_)
            refine sq (o_newX [(.int .i64 (0 : Int)), (.string (ByteArray.mk #[]))] 48 (X := X1763) (B := w.heap.size) E1775.size rfl (by kernel_rfl) ?_)
            intro b1874 w1875 X1876 s1877 k1878 n1879
            have p1880 := n1879 _ (OB.old k1781)
            have p1881 := n1879 _ (OS.old O1597)
            have k1882 := (OB.step0 k1781 s1877)
            have O1883 := (OS.step0 O1597 s1877)
            have E1884 := (Evo.then0 E1775 (Step.evo s1877))
            refine sq (o_stB (o := 0) (v := (.agg #[(.int .i64 ((lget ((lget h s653).Lines) s1598).Op)), (.string ((lget ((lget h s653).Lines) s1598).Line))])) [(.int .i64 ((lget ((lget h s653).Lines) s1598).Op)), (.string ((lget ((lget h s653).Lines) s1598).Line))] rfl k1878 (by kernel_rfl) (by kernel_rfl) Tryd.sizeOf48 rfl rfl rfl ?_)
            intro w1885 s1886 k1887
            refine nil_ ?_
            refine then_normal (K1862 _ _ _ _ ?_)
            refine seq_ (fun _ K1888 => ?_)
            refine reg_ ?_
            refine sq (o_pv (.pointer (some ⟨b1874, 0, none⟩)) rfl (by kernel_rfl) ?_)
            refine sq (o_pv (.int .i64 ((lget ((lget h s653).Lines) s1598).Op)) rfl (x_load1 (by kernel_rfl) Tryd.isAgg3 (k1887.2.1.cell' 0 rfl)) ?_)
            refine sq (o_pv (.bool (!decide (((lget ((lget h s653).Lines) s1598).Op) = (2 : Int)))) rfl (by kernel_rfl) ?_)
            refine nil_ ?_
            refine then_normal (K1888 _ _ _ _ ?_)
            refine cond_nd (((lget ((lget h s653).Lines) s1598).Op) = (2 : Int)) (by kernel_rfl) (fun h1889 => ?_) (fun h1889 => ?_)
            ·
              replace hp := hp.1 h1889
              refine reg_ ?_
              refine sq (o_pv (.slice a1594 n1595 c1596) rfl (by kernel_rfl) ?_)
              refine sq (o_pv (.pointer (some ⟨b1874, 1, none⟩)) rfl (by kernel_rfl) ?_)
              refine sq (o_pv (.string ((lget ((lget h s653).Lines) s1598).Line)) rfl (x_load1 (by kernel_rfl) Tryd.isAgg9 (k1887.2.1.cell' 1 rfl)) ?_)
              have k1890 := (OB.step k1882 s1886 p1880)
              have O1891 := (OS.step O1883 s1886 p1881)
              have E1898 := (Evo.thenW E1884 (Step.evo s1886) k1878.2.2)
              refine sq (o_rowX (R := rStr) [(.string ((lget ((lget h s653).Lines) s1598).Line))] [(lget ((lget h s653).Lines) s1598).Line] 9 1 (X := X1876) (B := w.heap.size) E1898.size rfl (by kernel_rfl) (Flat.cons (cs := [(.string ((lget ((lget h s653).Lines) s1598).Line))]) (rStr_mk zeLine1873) Flat.nil) rfl (by decide) ?_)
              intro b1892 w1893 X1894 s1895 O1896 n1897
              have p1899 := n1897 _ (OB.old k1890)
              have p1900 := n1897 _ (OS.old O1891)
              have p1901 := n1897 _ (OB.old k1887)
              obtain ⟨h1902, hp⟩ := hp
              have O1903 := (OS.step0 O1891 s1895)
              have k1904 := (OB.step0 k1890 s1895)
              have k1905 := (OB.step0 k1887 s1895)
              have E1906 := (Evo.then0 E1898 (Step.evo s1895))
              refine sq (o_appX (R := rStr) (X := X1894) (B := w.heap.size) (L := out1593) (M := [(lget ((lget h s653).Lines) s1598).Line]) rfl elT22 rfl E1906.size O1903 (OS.src O1896) O1896.1 (by kernel_rfl) (by kernel_rfl) h1902 ?_)
              intro a1907 n1908 c1909 w1910 X1911 s1912 O1913 gr1914
              have p1915 := gr1914 _ p1782 (OB.old k1904)
              have p1916 := gr1914 _ (Ap.symm p1881) (OB.old k1905)
              refine sq (o_pv (.slice a1907 n1908 c1909) rfl (by kernel_rfl) ?_)
              refine nil_ ?_
              refine blk_normal ?_
              have E1917 := (Evo.thenW E1906 (Step.evo s1912) O1903.2.2)
              have hXo1918 := (Old.step (Old.step (Old.step (Old.step hXo1776 s1877) s1886) s1895) s1912)
              have hS1919 := (Sub.trans (Sub.trans (Sub.trans (Sub.trans hS1777 (Step.up s1877)) (Step.up s1886)) (Step.up s1895)) (Step.up s1912))
              have ha1920 := (Sl.step (Sl.step (Sl.step (Sl.step ha1778 s1877) s1886) s1895) s1912)
              have hh1921 := (Sl.step (Sl.step (Sl.step (Sl.step hh1779 s1877) s1886) s1895) s1912)
              have heLines1922 := (Sl.step (Sl.step (Sl.step (Sl.step heLines1780 s1877) s1886) s1895) s1912)
              have k1923 := (OB.step k1904 s1912 p1782)
              refine then_normal (hJ1852 _ _ _ ⟨[(6, (.slice a1907 n1908 c1909))], fit_mk (fun _ _ => rfl) (by kernel_rfl) (vs_cons (by kernel_rfl) vs_nil), ?_⟩)
              exact ⟨X1911, (out1593 ++ ([(lget ((lget h s653).Lines) s1598).Line])), a1907, n1908, c1909, rfl, E1917, hXo1918, hS1919, ha1920, hh1921, heLines1922, k1923, O1913, p1915, hp⟩
            ·
              replace hp := hp.2 h1889
              refine wp_skip ?_
              refine blk_normal ?_
              have E1924 := (Evo.thenW E1884 (Step.evo s1886) k1878.2.2)
              have hXo1925 := (Old.step (Old.step hXo1776 s1877) s1886)
              have hS1926 := (Sub.trans (Sub.trans hS1777 (Step.up s1877)) (Step.up s1886))
              have ha1927 := (Sl.step (Sl.step ha1778 s1877) s1886)
              have hh1928 := (Sl.step (Sl.step hh1779 s1877) s1886)
              have heLines1929 := (Sl.step (Sl.step heLines1780 s1877) s1886)
              have k1930 := (OB.step k1882 s1886 p1880)
              have O1931 := (OS.step O1883 s1886 p1881)
              refine then_normal (hJ1852 _ _ _ ⟨[(6, (.slice a1594 n1595 c1596))], fit_mk (fun _ _ => rfl) (by kernel_rfl) (vs_cons (by kernel_rfl) vs_nil), ?_⟩)
              exact ⟨X1876, out1593, a1594, n1595, c1596, rfl, E1924, hXo1925, hS1926, ha1927, hh1928, heLines1929, k1930, O1931, p1782, hp⟩
          ·
            rintro _ w1849 g1932 ⟨X1850, out1842, a1843, n1844, c1845, rfl, E1854, hXo1855, hS1856, ha1857, hh1858, heLines1859, k1860, O1846, p1861, hv1853⟩
            replace hp := hk1848 out1842 hv1853 (OS.len O1846)
            refine then_normal (K1786 _ _ _ _ ?_)
            refine reg_ ?_
            obtain ⟨h1933, hp⟩ := hp
            refine sq (o_pv (.int .i64 (s1598 + (1 : Int))) rfl (x_add2 (k := .i64) (a := s1598) (b := (1 : Int)) (s1598 + (1 : Int)) (by kernel_rfl) (by kernel_rfl) (wrap_inR h1933)) ?_)
            refine sq (o_pv (.int .i64 (s1598 + (1 : Int))) rfl (by kernel_rfl) ?_)
            refine nil_ ?_
            refine then_normal (hA1767 _ _ _ ⟨_, [(6, (.slice a1843 n1844 c1845)), (50, (.int .i64 (s1598 + (1 : Int))))], hp.2, fit_mk (AgB.nest (AgB.look (AgB.mix _ _ _) (by kernel_rfl)) (by kernel_rfl) (by kernel_rfl)) (by kernel_rfl) (vs_cons (by kernel_rfl) (vs_cons (by kernel_rfl) vs_nil)), ?_⟩)
            exact ⟨X1850, out1842, (s1598 + (1 : Int)), a1843, n1844, c1845, rfl, rfl, E1854, hXo1855, hS1856, ha1857, hh1858, heLines1859, k1860, O1846, p1861, h1933, hp.1⟩
        ·
          replace hp := hp.2 h1785
          refine wp_exit ?_
          refine then_exit ?_
          refine then_exit ?_
          refine blk_exit ?_
          refine then_normal (K1428 _ _ _ _ ?_)
          refine reg_ ?_
          refine sq (o_pv (.pointer (some ⟨b1328, 0, none⟩)) rfl (by kernel_rfl) ?_)
          refine sq (o_pv (.int .i64 ((lget h s653).At)) rfl (x_load1 (by kernel_rfl) Tryd.isAgg3 (k1781.2.1.cell' 0 rfl)) ?_)
          refine sq (o_pv (.pointer (some ⟨b1328, 1, none⟩)) rfl (by kernel_rfl) ?_)
          refine sq (o_pv (.int .i64 ((lget h s653).Del)) rfl (x_load1 (by kernel_rfl) Tryd.isAgg3 (k1781.2.1.cell' 1 rfl)) ?_)
          obtain ⟨h1934, hp⟩ := hp
          refine sq (o_pv (.int .i64 (((lget h s653).At) + ((lget h s653).Del))) rfl (x_add2 (k := .i64) (a := (lget h s653).At) (b := (lget h s653).Del) (((lget h s653).At) + ((lget h s653).Del)) (by kernel_rfl) (by kernel_rfl) (wrap_inR h1934)) ?_)
          refine sq (o_pv (.int .i64 (((lget h s653).At) + ((lget h s653).Del))) rfl (by kernel_rfl) ?_)
          refine nil_ ?_
          refine blk_normal ?_
          refine then_normal (K1310 _ _ _ _ ?_)
          refine reg_ ?_
          obtain ⟨h1935, hp⟩ := hp
          refine sq (o_pv (.int .i64 (s653 + (1 : Int))) rfl (x_add2 (k := .i64) (a := s653) (b := (1 : Int)) (s653 + (1 : Int)) (by kernel_rfl) (by kernel_rfl) (wrap_inR h1935)) ?_)
          refine sq (o_pv (.int .i64 (s653 + (1 : Int))) rfl (by kernel_rfl) ?_)
          refine nil_ ?_
          refine then_normal (hA1301 _ _ _ ⟨_, [(6, (.slice a1594 n1595 c1596)), (7, (.int .i64 (((lget h s653).At) + ((lget h s653).Del)))), (15, (.int .i64 (s653 + (1 : Int))))], hp.2, fit_mk (AgB.nest (AgB.nest (AgB.look (AgB.mix _ _ _) (by kernel_rfl)) (by kernel_rfl) (by kernel_rfl)) (by kernel_rfl) (by kernel_rfl)) (by kernel_rfl) (vs_cons (by kernel_rfl) (vs_cons (by kernel_rfl) (vs_cons (by kernel_rfl) vs_nil))), ?_⟩)
          exact ⟨X1763, out1593, (((lget h s653).At) + ((lget h s653).Del)), (s653 + (1 : Int)), a1594, n1595, c1596, rfl, rfl, E1775, hXo1776, hS1777, ha1778, hh1779, O1597, h1934, h1935, hp.1⟩
  ·
    replace hp := hp.2 h1309
    refine wp_exit ?_
    refine then_exit ?_
    refine then_exit ?_
    refine blk_exit ?_
    refine then_normal (K10 _ _ _ _ ?_)
    refine seq_ (fun _ K1936 => ?_)
    refine reg_ ?_
    refine sq (o_pv (.slice a647 n648 c649) rfl (by kernel_rfl) ?_)
    refine sq (o_pv (.slice aa1 a.length ca2) rfl (by kernel_rfl) ?_)
    refine sq (o_pv (.int .i64 end_651) rfl (by kernel_rfl) ?_)
    obtain ⟨h1940, hp⟩ := hp
    refine sq (o_slice (R := rStr) (X := X1297) (L := a) end_651.toNat a.length (a.drop end_651.toNat) rfl Tryd.underlying22 Tryd.sizeOf9 ha1305 (by kernel_rfl) rfl (.inr ⟨.i64, by rw [show ((end_651.toNat : Nat) : Int) = end_651 from by omega]; kernel_rfl⟩) (.inl ⟨rfl, rfl, rfl⟩) (by omega) (by omega) (by rw [List.take_length]) ?_)
    intro a1937 c1938 h1939
    obtain ⟨h1941, hp⟩ := hp
    refine sq (o_appX (R := rStr) (X := X1297) (B := w.heap.size) (L := out646) (M := a.drop end_651.toNat) rfl elT22 rfl E1302.size O650 (Sl.src h1939) rfl (by kernel_rfl) (by kernel_rfl) h1941 ?_)
    intro a1942 n1943 c1944 w1945 X1946 s1947 O1948 gr1949
    have hS1950 := (Sub.trans hS1304 (Step.up s1947))
    have E1956 := (Evo.thenW E1302 (Step.evo s1947) O650.2.2)
    have hXo1957 := (Old.step hXo1303 s1947)
    have ha1958 := (Sl.step ha1305 s1947)
    have hh1959 := (Sl.step hh1306 s1947)
    have h1960 := (Sl.step h1939 s1947)
    have ax1955 := OS.apold O1948 hX0
    obtain ⟨X1951, u1952, r1953, hm1954⟩ := OS.release O1948
    obtain rfl : n1943 = (out646 ++ (a.drop end_651.toNat)).length := O1948.1
    have hXo1961 := (Old.less hXo1957 u1952)
    refine sq (o_call 33 #[(.slice a1942 (out646 ++ (a.drop end_651.toNat)).length c1944)] rfl (x_call Tryd.call33 (by rw []; kernel_rfl)) (slices_Clip_string_string_w (X := X1951) (s := out646 ++ (a.drop end_651.toNat)) hXo1961 r1953 hp) ?_)
    rintro _ w1963 ⟨r1962, hp, e1964, ar1966, rfl, hr1967⟩
    have s1965 := Step.of0 X1951 e1964
    replace hp := hp (Sl.len hr1967)
    refine sq (o_pv (.slice ar1966 r1962.length r1962.length) rfl (by kernel_rfl) ?_)
    refine sq (o_pv .nilIface rfl (by kernel_rfl) ?_)
    refine nil_ ?_
    refine then_normal (K1936 _ _ _ _ ?_)
    refine wp_ret ?_
    have hS1968 := (Sub.trans (hm1954 _ ax1955 hS1950) (Step.up s1965))
    have E1969 := (Evo.then0 E1956 e1964)
    refine end_ret hQ (.tuple #[(.slice ar1966 r1962.length r1962.length), .nilIface]) (by kernel_rfl) ?_
    exact ⟨r1962, PErr.nil, hp, E1969, ar1966, r1962.length, .nilIface, rfl, (Sl.less hr1967 hS1968), rErr_nil⟩

def patch_turned_p (l : (List S_diff_Edit)) (Q : (List S_diff_Edit) → Prop) : Prop :=
  ((l.length ≤ 9223372036854775807) → (∃ (I824 : (List S_diff_Edit) → (List S_diff_Edit) → Int → Prop) (m825 : (List S_diff_Edit) → (List S_diff_Edit) → Int → Nat), (I824 ([] : List S_diff_Edit) ([] : List S_diff_Edit) (0 : Int)) ∧ (∀ (out374 : (List S_diff_Edit)) (add379 : (List S_diff_Edit)) (s384 : Int), (I824 out374 add379 s384) → (out374.length ≤ 9223372036854775807) → (add379.length ≤ 9223372036854775807) → (inR .i64 s384) → (((s384 < (l.length : Int)) → (∃ k1047 : (List S_diff_Edit) → (List S_diff_Edit) → Prop, (∀ (out1037 : (List S_diff_Edit)) (add1042 : (List S_diff_Edit)), k1047 out1037 add1042 → (out1037.length ≤ 9223372036854775807) → (add1042.length ≤ 9223372036854775807) → ((inR .i64 (s384 + (1 : Int))) ∧ ((I824 out1037 add1042 (s384 + (1 : Int))) ∧ m825 out1037 add1042 (s384 + (1 : Int)) < m825 out374 add379 s384))) ∧ ((inL l s384) ∧ ((inR .i64 ((lget l s384).Op)) → ((((lget l s384).Line).size ≤ maxLen) → (∃ k1153 : (List S_diff_Edit) → (List S_diff_Edit) → Int → Prop, (∀ (out1140 : (List S_diff_Edit)) (add1145 : (List S_diff_Edit)) (f1150 : Int), k1153 out1140 add1145 f1150 → (out1140.length ≤ 9223372036854775807) → (add1145.length ≤ 9223372036854775807) → (inR .i64 f1150) → (((out1140.length + ([(S_diff_Edit.mk f1150 ((lget l s384).Line))]).length) * 24 ≤ 140737488355328) ∧ (k1047 (out1140 ++ ([(S_diff_Edit.mk f1150 ((lget l s384).Line))])) add1145))) ∧ (((((lget l s384).Op) = (2 : Int)) → (((add379.length + ([(S_diff_Edit.mk (3 : Int) ((lget l s384).Line))]).length) * 24 ≤ 140737488355328) ∧ (k1047 out374 (add379 ++ ([(S_diff_Edit.mk (3 : Int) ((lget l s384).Line))]))))) ∧ ((¬ (((lget l s384).Op) = (2 : Int))) → (((((lget l s384).Op) = (3 : Int)) → (k1153 out374 add379 (2 : Int))) ∧ ((¬ (((lget l s384).Op) = (3 : Int))) → (((out374.length + add379.length) * 24 ≤ 140737488355328) ∧ (k1153 (out374 ++ add379) ([] : List S_diff_Edit) ((lget l s384).Op))))))))))))) ∧ ((¬ (s384 < (l.length : Int))) → (((out374.length + add379.length) * 24 ≤ 140737488355328) ∧ (slices_Clip_diff_Edit_diff_Edit_p (out374 ++ add379) (fun (r1287 : (List S_diff_Edit)) => ((r1287.length ≤ 9223372036854775807) → Q r1287)))))))))
set_option maxRecDepth 20000 in
set_option maxHeartbeats 4000000 in
theorem patch_turned_w {X : List Nat} {w : World} {l : (List S_diff_Edit)} {al1 : Option Addr} {cl2 : Nat} {Q : (List S_diff_Edit) → Prop} (hX0 : Old X w) (hl3 : Sl r_diff_Edit X w al1 cl2 l) (hp : patch_turned_p l Q) :
    Calls Tryd.prog 30 #[(.slice al1 l.length cl2)] w (Ret fun v w' => ∃ (r0 : (List S_diff_Edit)), Q r0 ∧ Evo [] w w' ∧ ∃ (aq01 : Option Addr) (cq02 : Nat), v = (.slice aq01 r0.length cq02) ∧ Sl r_diff_Edit X w' aq01 cq02 r0) := by
  have hXo := hX0
  have E0 : Evo [] w w := RB.refl _ _ _
  have hS : Sub X X := Sub.refl _
  unfold patch_turned_p at hp
  refine enter_ Tryd.func30 rfl 38 [(0, (.slice al1 l.length cl2))] (by kernel_rfl) (fun Qe hQ => ?_)
  replace hp := hp (Sl.len hl3)
  refine seq_ (fun _ K4 => ?_)
  refine reg_ ?_
  refine sq (o_pv (.slice none 0 0) rfl (by kernel_rfl) ?_)
  refine nil_ ?_
  refine then_normal (K4 _ _ _ _ ?_)
  refine seq_ (fun _ K5 => ?_)
  refine reg_ ?_
  refine sq (o_pv (.slice none 0 0) rfl (by kernel_rfl) ?_)
  refine sq (o_pv (.slice none 0 0) rfl (by kernel_rfl) ?_)
  refine nil_ ?_
  refine then_normal (K5 _ _ _ _ ?_)
  refine seq_ (fun _ K6 => ?_)
  refine seq_ (fun _ K7 => ?_)
  refine reg_ ?_
  refine sq (o_pv (.slice al1 l.length cl2) rfl (by kernel_rfl) ?_)
  refine sq (o_pv (.int .i64 (l.length : Int)) rfl (by kernel_rfl) ?_)
  refine sq (o_pv (.int .i64 (0 : Int)) rfl (by kernel_rfl) ?_)
  refine nil_ ?_
  refine then_normal (K7 _ _ _ _ ?_)
  refine wp_block ?_
  obtain ⟨I824, m825, hI826, hp⟩ := hp
  refine loop_ 17179868760 (fun kq lq w828 => ∃ (X829 : List Nat) (out374 : (List S_diff_Edit)) (add379 : (List S_diff_Edit)) (s384 : Int) (a375 : Option Addr) (n376 : Nat) (c377 : Nat) (a380 : Option Addr) (n381 : Nat) (c382 : Nat), (lq = [(3, (.slice a375 n376 c377)), (4, (.slice a380 n381 c382)), (9, (.int .i64 s384))]) ∧ (kq = m825 out374 add379 s384) ∧ (Evo [] w w828) ∧ (Old X829 w828) ∧ (Sub X X829) ∧ (Sl r_diff_Edit X829 w828 al1 cl2 l) ∧ (OS r_diff_Edit ([]) w.heap.size X829 w828 48 a375 n376 c377 out374) ∧ (OS r_diff_Edit ([]) w.heap.size X829 w828 48 a380 n381 c382 add379) ∧ (Ap (blkL a375) (blkL a380)) ∧ (inR .i64 s384) ∧ (I824 out374 add379 s384)) (m825 ([] : List S_diff_Edit) ([] : List S_diff_Edit) (0 : Int)) [(3, (.slice none 0 0)), (4, (.slice none 0 0)), (9, (.int .i64 (0 : Int)))] (vs_cons (by kernel_rfl) (vs_cons (by kernel_rfl) (vs_cons (by kernel_rfl) vs_nil))) ⟨X, ([] : List S_diff_Edit), ([] : List S_diff_Edit), (0 : Int), none, 0, 0, none, 0, 0, rfl, rfl, E0, hXo, hS, hl3, (OS.nil _ _ _ _), (OS.nil _ _ _ _), (Ap.nil_l _), (by decide : inR .i64 (0 : Int)), hI826⟩ ?_
  rintro _ _ w828 g831 ⟨X829, out374, add379, s384, a375, n376, c377, a380, n381, c382, rfl, rfl, E834, hXo835, hS836, hl837, O378, O383, p838, rs385, hI827⟩ Kl832 hA833
  replace hp := hp out374 add379 s384 hI827 (OS.len O378) (OS.len O383) rs385
  refine seq_ (fun _ K839 => ?_)
  refine reg_ ?_
  refine sq (o_pv (.bool (decide (s384 < (l.length : Int)))) rfl (by kernel_rfl) ?_)
  refine nil_ ?_
  refine then_normal (K839 _ _ _ _ ?_)
  refine seq_ (fun _ K840 => ?_)
  refine cond_d (s384 < (l.length : Int)) (by kernel_rfl) (fun h841 => ?_) (fun h841 => ?_)
  ·
    replace hp := hp.1 h841
    refine wp_skip ?_
    refine then_normal (K840 _ _ _ _ ?_)
    refine seq_ (fun _ K842 => ?_)
    obtain ⟨k1047, hk1048, hp⟩ := hp
    refine ground_ ?_
    refine join_ 8589932632 (fun lq w1049 => ∃ (X1050 : List Nat) (out1037 : (List S_diff_Edit)) (add1042 : (List S_diff_Edit)) (a1038 : Option Addr) (n1039 : Nat) (c1040 : Nat) (a1043 : Option Addr) (n1044 : Nat) (c1045 : Nat), (lq = [(3, (.slice a1038 n1039 c1040)), (4, (.slice a1043 n1044 c1045))]) ∧ (Evo [] w w1049) ∧ (Old X1050 w1049) ∧ (Sub X X1050) ∧ (Sl r_diff_Edit X1050 w1049 al1 cl2 l) ∧ (OS r_diff_Edit ([]) w.heap.size X1050 w1049 48 a1038 n1039 c1040 out1037) ∧ (OS r_diff_Edit ([]) w.heap.size X1050 w1049 48 a1043 n1044 c1045 add1042) ∧ (Ap (blkL a1038) (blkL a1043)) ∧ (k1047 out1037 add1042)) (fun Kj1051 hJ1052 => ?_) ?_
    ·
      refine wp_block ?_
      refine seq_ (fun _ K1059 => ?_)
      refine reg_ ?_
      obtain ⟨h1060, hp⟩ := hp
      obtain ⟨b1061, o1062, cs1063, ha1064, nx1065, lt1066, ok1067, hc1068⟩ := Sl.atI hl837 s384 h1060
      obtain ⟨rfl, reOp1069, zeLine1070⟩ := r_diff_Edit_open ok1067
      replace hp := hp reOp1069
      replace hp := hp zeLine1070
      refine sq (o_pv (.pointer (some ⟨b1061, o1062 + s384.toNat * 2, none⟩)) rfl (x_ixA (m := l.length) (c := cl2) (k := .i64) (i := s384) Tryd.underlying33 Tryd.sizeOf48 (by rw [← ha1064]; kernel_rfl) (by kernel_rfl) h1060) ?_)
      refine sq (o_pv (.agg #[(.int .i64 ((lget l s384).Op)), (.string ((lget l s384).Line))]) rfl (x_loadN [(.int .i64 ((lget l s384).Op)), (.string ((lget l s384).Line))] (by kernel_rfl) Tryd.isAgg48 Tryd.sizeOf48 hc1068) ?_)
      refine sq (o_newX [(.int .i64 (0 : Int)), (.string (ByteArray.mk #[]))] 48 (X := X829) (B := w.heap.size) E834.size rfl (by kernel_rfl) ?_)
      intro b1071 w1072 X1073 s1074 k1075 n1076
      have p1077 := n1076 _ (OS.old O378)
      have p1078 := n1076 _ (OS.old O383)
      have O1079 := (OS.step0 O378 s1074)
      have O1080 := (OS.step0 O383 s1074)
      have E1081 := (Evo.then0 E834 (Step.evo s1074))
      refine sq (o_stB (o := 0) (v := (.agg #[(.int .i64 ((lget l s384).Op)), (.string ((lget l s384).Line))])) [(.int .i64 ((lget l s384).Op)), (.string ((lget l s384).Line))] rfl k1075 (by kernel_rfl) (by kernel_rfl) Tryd.sizeOf48 rfl rfl rfl ?_)
      intro w1082 s1083 k1084
      refine nil_ ?_
      refine then_normal (K1059 _ _ _ _ ?_)
      refine seq_ (fun _ K1085 => ?_)
      refine seq_ (fun _ K1086 => ?_)
      refine reg_ ?_
      refine sq (o_pv (.pointer (some ⟨b1071, 0, none⟩)) rfl (by kernel_rfl) ?_)
      refine sq (o_pv (.int .i64 ((lget l s384).Op)) rfl (x_load1 (by kernel_rfl) Tryd.isAgg3 (k1084.2.1.cell' 0 rfl)) ?_)
      refine nil_ ?_
      refine then_normal (K1086 _ _ _ _ ?_)
      have E1160 := (Evo.thenW E1081 (Step.evo s1083) k1075.2.2)
      have hXo1161 := (Old.step (Old.step hXo835 s1074) s1083)
      have hS1162 := (Sub.trans (Sub.trans hS836 (Step.up s1074)) (Step.up s1083))
      have hl1163 := (Sl.step (Sl.step hl837 s1074) s1083)
      have O1164 := (OS.step O1079 s1083 p1077)
      have O1165 := (OS.step O1080 s1083 p1078)
      obtain ⟨k1153, hk1154, hp⟩ := hp
      refine ground_ ?_
      refine join_ 536838168 (fun lq w1155 => ∃ (X1156 : List Nat) (out1140 : (List S_diff_Edit)) (add1145 : (List S_diff_Edit)) (f1150 : Int) (a1141 : Option Addr) (n1142 : Nat) (c1143 : Nat) (a1146 : Option Addr) (n1147 : Nat) (c1148 : Nat), (lq = [(3, (.slice a1141 n1142 c1143)), (4, (.slice a1146 n1147 c1148))]) ∧ (Evo [] w w1155) ∧ (Old X1156 w1155) ∧ (Sub X X1156) ∧ (Sl r_diff_Edit X1156 w1155 al1 cl2 l) ∧ (OS r_diff_Edit ([]) w.heap.size X1156 w1155 48 a1141 n1142 c1143 out1140) ∧ (OS r_diff_Edit ([]) w.heap.size X1156 w1155 48 a1146 n1147 c1148 add1145) ∧ (OB ([]) w.heap.size X1156 w1155 b1071 [(.int .i64 f1150), (.string ((lget l s384).Line))] 48) ∧ (Ap (blkL a1141) (blkL a1146)) ∧ (Ap (blkL a1141) ([b1071])) ∧ (Ap (blkL a1146) ([b1071])) ∧ (inR .i64 f1150) ∧ (k1153 out1140 add1145 f1150)) (fun Kj1157 hJ1158 => ?_) ?_
      ·
        refine wp_block ?_
        refine seq_ (fun _ K1173 => ?_)
        refine reg_ ?_
        refine sq (o_pv (.bool (decide (((lget l s384).Op) = (2 : Int)))) rfl (by kernel_rfl) ?_)
        refine sq (o_pv (.bool (decide (((lget l s384).Op) = (2 : Int)))) rfl (by kernel_rfl) ?_)
        refine nil_ ?_
        refine then_normal (K1173 _ _ _ _ ?_)
        refine cond_d (((lget l s384).Op) = (2 : Int)) (by kernel_rfl) (fun h1174 => ?_) (fun h1174 => ?_)
        ·
          replace hp := hp.1 h1174
          refine seq_ (fun _ K1175 => ?_)
          refine reg_ ?_
          refine sq (o_pv (.slice a380 n381 c382) rfl (by kernel_rfl) ?_)
          refine sq (o_pv (.pointer (some ⟨b1071, 1, none⟩)) rfl (by kernel_rfl) ?_)
          refine sq (o_pv (.string ((lget l s384).Line)) rfl (x_load1 (by kernel_rfl) Tryd.isAgg9 (k1084.2.1.cell' 1 rfl)) ?_)
          refine sq (o_pv (.agg #[(.int .i64 (3 : Int)), (.string ((lget l s384).Line))]) rfl (by kernel_rfl) ?_)
          refine sq (o_rowX (R := r_diff_Edit) [(.int .i64 (3 : Int)), (.string ((lget l s384).Line))] [(S_diff_Edit.mk (3 : Int) ((lget l s384).Line))] 48 1 (X := X1073) (B := w.heap.size) E1160.size rfl (by kernel_rfl) (Flat.cons (cs := [(.int .i64 (3 : Int)), (.string ((lget l s384).Line))]) (r_diff_Edit_mk (by decide : inR .i64 (3 : Int)) zeLine1070) Flat.nil) rfl (by decide) ?_)
          intro b1176 w1177 X1178 s1179 O1180 n1181
          have p1182 := n1181 _ (OS.old O1164)
          have p1183 := n1181 _ (OS.old O1165)
          have p1184 := n1181 _ (OB.old k1084)
          obtain ⟨h1185, hp⟩ := hp
          have O1186 := (OS.step0 O1165 s1179)
          have O1187 := (OS.step0 O1164 s1179)
          have k1188 := (OB.step0 k1084 s1179)
          have E1189 := (Evo.then0 E1160 (Step.evo s1179))
          refine sq (o_appX (R := r_diff_Edit) (X := X1178) (B := w.heap.size) (L := add379) (M := [(S_diff_Edit.mk (3 : Int) ((lget l s384).Line))]) rfl elT33 rfl E1189.size O1186 (OS.src O1180) O1180.1 (by kernel_rfl) (by kernel_rfl) h1185 ?_)
          intro a1190 n1191 c1192 w1193 X1194 s1195 O1196 gr1197
          have p1198 := gr1197 _ p838 (OS.old O1187)
          have p1199 := gr1197 _ (Ap.symm p1078) (OB.old k1188)
          refine sq (o_pv (.slice a1190 n1191 c1192) rfl (by kernel_rfl) ?_)
          refine nil_ ?_
          refine then_normal (K1175 _ _ _ _ ?_)
          refine wp_exit ?_
          refine blk_exit_ne rfl ?_
          refine then_exit ?_
          refine then_exit ?_
          refine blk_exit ?_
          have E1200 := (Evo.thenW E1189 (Step.evo s1195) O1186.2.2)
          have hXo1201 := (Old.step (Old.step hXo1161 s1179) s1195)
          have hS1202 := (Sub.trans (Sub.trans hS1162 (Step.up s1179)) (Step.up s1195))
          have hl1203 := (Sl.step (Sl.step hl1163 s1179) s1195)
          have O1204 := (OS.step O1187 s1195 p838)
          refine then_normal (hJ1052 _ _ _ ⟨[(3, (.slice a375 n376 c377)), (4, (.slice a1190 n1191 c1192))], fit_mk (AgB.look (fun _ _ => rfl) (by kernel_rfl)) (by kernel_rfl) (vs_cons (by kernel_rfl) (vs_cons (by kernel_rfl) vs_nil)), ?_⟩)
          exact ⟨X1194, out374, (add379 ++ ([(S_diff_Edit.mk (3 : Int) ((lget l s384).Line))])), a375, n376, c377, a1190, n1191, c1192, rfl, E1200, hXo1201, hS1202, hl1203, O1204, O1196, p1198, hp⟩
        ·
          replace hp := hp.2 h1174
          refine seq_ (fun _ K1205 => ?_)
          refine reg_ ?_
          refine sq (o_pv (.bool (decide (((lget l s384).Op) = (3 : Int)))) rfl (by kernel_rfl) ?_)
          refine sq (o_pv (.bool (decide (((lget l s384).Op) = (3 : Int)))) rfl (by kernel_rfl) ?_)
          refine nil_ ?_
          refine then_normal (K1205 _ _ _ _ ?_)
          refine cond_d (((lget l s384).Op) = (3 : Int)) (by kernel_rfl) (fun h1206 => ?_) (fun h1206 => ?_)
          ·
            replace hp := hp.1 h1206
            refine reg_ ?_
            refine sq (o_pv (.pointer (some ⟨b1071, 0, none⟩)) rfl (by kernel_rfl) ?_)
            refine sq (o_stB (o := 0) (v := (.int .i64 (2 : Int))) [(.int .i64 (2 : Int)), (.string ((lget l s384).Line))] rfl k1084 (by kernel_rfl) (by kernel_rfl) Tryd.sizeOf3 rfl rfl rfl ?_)
            intro w1207 s1208 k1209
            refine nil_ ?_
            refine blk_normal ?_
            have E1210 := (Evo.thenW E1160 (Step.evo s1208) k1084.2.2)
            have hXo1211 := (Old.step hXo1161 s1208)
            have hS1212 := (Sub.trans hS1162 (Step.up s1208))
            have hl1213 := (Sl.step hl1163 s1208)
            have O1214 := (OS.step O1164 s1208 p1077)
            have O1215 := (OS.step O1165 s1208 p1078)
            refine then_normal (hJ1158 _ _ _ ⟨[(3, (.slice a375 n376 c377)), (4, (.slice a380 n381 c382))], fit_mk (fun _ _ => rfl) (by kernel_rfl) (vs_cons (by kernel_rfl) (vs_cons (by kernel_rfl) vs_nil)), ?_⟩)
            exact ⟨X1073, out374, add379, (2 : Int), a375, n376, c377, a380, n381, c382, rfl, E1210, hXo1211, hS1212, hl1213, O1214, O1215, k1209, p838, p1077, p1078, (by decide : inR .i64 (2 : Int)), hp⟩
          ·
            replace hp := hp.2 h1206
            refine seq_ (fun _ K1216 => ?_)
            refine reg_ ?_
            refine sq (o_pv (.slice a375 n376 c377) rfl (by kernel_rfl) ?_)
            refine sq (o_pv (.slice a380 n381 c382) rfl (by kernel_rfl) ?_)
            obtain ⟨h1217, hp⟩ := hp
            refine sq (o_appX (R := r_diff_Edit) (X := X1073) (B := w.heap.size) (L := out374) (M := add379) rfl elT33 rfl E1160.size O1164 (OS.src O1165) O1165.1 (by kernel_rfl) (by kernel_rfl) h1217 ?_)
            intro a1218 n1219 c1220 w1221 X1222 s1223 O1224 gr1225
            have p1226 := gr1225 _ (Ap.symm p838) (OS.old O1165)
            have p1227 := gr1225 _ (Ap.symm p1077) (OB.old k1084)
            refine sq (o_pv (.slice a1218 n1219 c1220) rfl (by kernel_rfl) ?_)
            refine nil_ ?_
            refine then_normal (K1216 _ _ _ _ ?_)
            refine reg_ ?_
            refine sq (o_pv (.slice none 0 0) rfl (by kernel_rfl) ?_)
            refine nil_ ?_
            refine blk_normal ?_
            have E1228 := (Evo.thenW E1160 (Step.evo s1223) O1164.2.2)
            have hXo1229 := (Old.step hXo1161 s1223)
            have hS1230 := (Sub.trans hS1162 (Step.up s1223))
            have hl1231 := (Sl.step hl1163 s1223)
            have k1232 := (OB.step k1084 s1223 (Ap.symm p1077))
            refine then_normal (hJ1158 _ _ _ ⟨[(3, (.slice a1218 n1219 c1220)), (4, (.slice none 0 0))], fit_mk (fun _ _ => rfl) (by kernel_rfl) (vs_cons (by kernel_rfl) (vs_cons (by kernel_rfl) vs_nil)), ?_⟩)
            exact ⟨X1222, (out374 ++ add379), ([] : List S_diff_Edit), ((lget l s384).Op), a1218, n1219, c1220, none, 0, 0, rfl, E1228, hXo1229, hS1230, hl1231, O1224, (OS.nil _ _ _ _), k1232, (Ap.nil_r _), (Ap.symm p1227), (Ap.nil_l _), reOp1069, hp⟩
      ·
        rintro _ w1155 g1233 ⟨X1156, out1140, add1145, f1150, a1141, n1142, c1143, a1146, n1147, c1148, rfl, E1166, hXo1167, hS1168, hl1169, O1144, O1149, k1152, p1170, p1171, p1172, rf1151, hv1159⟩
        replace hp := hk1154 out1140 add1145 f1150 hv1159 (OS.len O1144) (OS.len O1149) rf1151
        refine then_normal (K1085 _ _ _ _ ?_)
        refine reg_ ?_
        refine sq (o_pv (.slice a1141 n1142 c1143) rfl (by kernel_rfl) ?_)
        refine sq (o_pv (.agg #[(.int .i64 f1150), (.string ((lget l s384).Line))]) rfl (x_loadN [(.int .i64 f1150), (.string ((lget l s384).Line))] (by kernel_rfl) Tryd.isAgg48 Tryd.sizeOf48 (k1152.2.1.cells' 0 rfl)) ?_)
        refine sq (o_rowX (R := r_diff_Edit) [(.int .i64 f1150), (.string ((lget l s384).Line))] [(S_diff_Edit.mk f1150 ((lget l s384).Line))] 48 1 (X := X1156) (B := w.heap.size) E1166.size rfl (by kernel_rfl) (Flat.cons (cs := [(.int .i64 f1150), (.string ((lget l s384).Line))]) (r_diff_Edit_mk rf1151 zeLine1070) Flat.nil) rfl (by decide) ?_)
        intro b1234 w1235 X1236 s1237 O1238 n1239
        have p1240 := n1239 _ (OS.old O1144)
        have p1241 := n1239 _ (OS.old O1149)
        have p1242 := n1239 _ (OB.old k1152)
        obtain ⟨h1243, hp⟩ := hp
        have O1244 := (OS.step0 O1144 s1237)
        have O1245 := (OS.step0 O1149 s1237)
        have k1246 := (OB.step0 k1152 s1237)
        have E1247 := (Evo.then0 E1166 (Step.evo s1237))
        refine sq (o_appX (R := r_diff_Edit) (X := X1236) (B := w.heap.size) (L := out1140) (M := [(S_diff_Edit.mk f1150 ((lget l s384).Line))]) rfl elT33 rfl E1247.size O1244 (OS.src O1238) O1238.1 (by kernel_rfl) (by kernel_rfl) h1243 ?_)
        intro a1248 n1249 c1250 w1251 X1252 s1253 O1254 gr1255
        have p1256 := gr1255 _ (Ap.symm p1170) (OS.old O1245)
        have p1257 := gr1255 _ (Ap.symm p1171) (OB.old k1246)
        refine sq (o_pv (.slice a1248 n1249 c1250) rfl (by kernel_rfl) ?_)
        refine nil_ ?_
        refine blk_normal ?_
        have E1258 := (Evo.thenW E1247 (Step.evo s1253) O1244.2.2)
        have hXo1259 := (Old.step (Old.step hXo1167 s1237) s1253)
        have hS1260 := (Sub.trans (Sub.trans hS1168 (Step.up s1237)) (Step.up s1253))
        have hl1261 := (Sl.step (Sl.step hl1169 s1237) s1253)
        have O1262 := (OS.step O1245 s1253 (Ap.symm p1170))
        refine then_normal (hJ1052 _ _ _ ⟨[(3, (.slice a1248 n1249 c1250)), (4, (.slice a1146 n1147 c1148))], fit_mk (AgB.nest (AgB.look (fun _ _ => rfl) (by kernel_rfl)) (by kernel_rfl) (by kernel_rfl)) (by kernel_rfl) (vs_cons (by kernel_rfl) (vs_cons (by kernel_rfl) vs_nil)), ?_⟩)
        exact ⟨X1252, (out1140 ++ ([(S_diff_Edit.mk f1150 ((lget l s384).Line))])), add1145, a1248, n1249, c1250, a1146, n1147, c1148, rfl, E1258, hXo1259, hS1260, hl1261, O1254, O1262, (Ap.symm p1256), hp⟩
    ·
      rintro _ w1049 g1263 ⟨X1050, out1037, add1042, a1038, n1039, c1040, a1043, n1044, c1045, rfl, E1054, hXo1055, hS1056, hl1057, O1041, O1046, p1058, hv1053⟩
      replace hp := hk1048 out1037 add1042 hv1053 (OS.len O1041) (OS.len O1046)
      refine then_normal (K842 _ _ _ _ ?_)
      refine reg_ ?_
      obtain ⟨h1264, hp⟩ := hp
      refine sq (o_pv (.int .i64 (s384 + (1 : Int))) rfl (x_add2 (k := .i64) (a := s384) (b := (1 : Int)) (s384 + (1 : Int)) (by kernel_rfl) (by kernel_rfl) (wrap_inR h1264)) ?_)
      refine sq (o_pv (.int .i64 (s384 + (1 : Int))) rfl (by kernel_rfl) ?_)
      refine nil_ ?_
      refine then_normal (hA833 _ _ _ ⟨_, [(3, (.slice a1038 n1039 c1040)), (4, (.slice a1043 n1044 c1045)), (9, (.int .i64 (s384 + (1 : Int))))], hp.2, fit_mk (AgB.nest (AgB.look (AgB.mix _ _ _) (by kernel_rfl)) (by kernel_rfl) (by kernel_rfl)) (by kernel_rfl) (vs_cons (by kernel_rfl) (vs_cons (by kernel_rfl) (vs_cons (by kernel_rfl) vs_nil))), ?_⟩)
      exact ⟨X1050, out1037, add1042, (s384 + (1 : Int)), a1038, n1039, c1040, a1043, n1044, c1045, rfl, rfl, E1054, hXo1055, hS1056, hl1057, O1041, O1046, p1058, h1264, hp.1⟩
  ·
    replace hp := hp.2 h841
    refine wp_exit ?_
    refine then_exit ?_
    refine then_exit ?_
    refine blk_exit ?_
    refine then_normal (K6 _ _ _ _ ?_)
    refine seq_ (fun _ K1265 => ?_)
    refine reg_ ?_
    refine sq (o_pv (.slice a375 n376 c377) rfl (by kernel_rfl) ?_)
    refine sq (o_pv (.slice a380 n381 c382) rfl (by kernel_rfl) ?_)
    obtain ⟨h1266, hp⟩ := hp
    refine sq (o_appX (R := r_diff_Edit) (X := X829) (B := w.heap.size) (L := out374) (M := add379) rfl elT33 rfl E834.size O378 (OS.src O383) O383.1 (by kernel_rfl) (by kernel_rfl) h1266 ?_)
    intro a1267 n1268 c1269 w1270 X1271 s1272 O1273 gr1274
    have p1275 := gr1274 _ (Ap.symm p838) (OS.old O383)
    have hS1276 := (Sub.trans hS836 (Step.up s1272))
    have E1282 := (Evo.thenW E834 (Step.evo s1272) O378.2.2)
    have hXo1283 := (Old.step hXo835 s1272)
    have hl1284 := (Sl.step hl837 s1272)
    have O1285 := (OS.step O383 s1272 (Ap.symm p838))
    have ax1281 := OS.apold O1273 hX0
    obtain ⟨X1277, u1278, r1279, hm1280⟩ := OS.release O1273
    obtain rfl : n1268 = (out374 ++ add379).length := O1273.1
    have hXo1286 := (Old.less hXo1283 u1278)
    refine sq (o_call 36 #[(.slice a1267 (out374 ++ add379).length c1269)] rfl (x_call Tryd.call36 (by rw []; kernel_rfl)) (slices_Clip_diff_Edit_diff_Edit_w (X := X1277) (s := out374 ++ add379) hXo1286 r1279 hp) ?_)
    rintro _ w1288 ⟨r1287, hp, e1289, ar1291, rfl, hr1292⟩
    have s1290 := Step.of0 X1277 e1289
    replace hp := hp (Sl.len hr1292)
    refine sq (o_pv (.slice ar1291 r1287.length r1287.length) rfl (by kernel_rfl) ?_)
    refine nil_ ?_
    refine then_normal (K1265 _ _ _ _ ?_)
    refine wp_ret ?_
    have hS1293 := (Sub.trans (hm1280 _ ax1281 hS1276) (Step.up s1290))
    have E1294 := (Evo.then0 E1282 e1289)
    refine end_ret hQ (.slice ar1291 r1287.length r1287.length) (by kernel_rfl) ?_
    exact ⟨r1287, hp, E1294, ar1291, r1287.length, rfl, (Sl.less hr1292 hS1293)⟩

def patch_Turned_p (h : (List S_patch_Hunk)) (Q : (List S_patch_Hunk) → Prop) : Prop :=
  ((h.length ≤ 9223372036854775807) → (∃ (I200 : (List S_patch_Hunk) → Int → Prop) (m201 : (List S_patch_Hunk) → Int → Nat), (I200 ([] : List S_patch_Hunk) (0 : Int)) ∧ (∀ (out98 : (List S_patch_Hunk)) (s103 : Int), (I200 out98 s103) → (out98.length ≤ 9223372036854775807) → (inR .i64 s103) → (((s103 < (h.length : Int)) → ((inL h s103) ∧ ((inR .i64 ((lget h s103).At)) → ((inR .i64 ((lget h s103).Del)) → ((inR .i64 ((lget h s103).To)) → ((inR .i64 ((lget h s103).Add)) → ((((lget h s103).Lines).length ≤ 9223372036854775807) → (patch_turned_p ((lget h s103).Lines) (fun (r266 : (List S_diff_Edit)) => ((r266.length ≤ 9223372036854775807) → (((out98.length + ([(S_patch_Hunk.mk ((lget h s103).To) ((lget h s103).Add) ((lget h s103).At) ((lget h s103).Del) r266)]).length) * 56 ≤ 140737488355328) ∧ (∀ l299 : List S_patch_Hunk, l299 = (out98 ++ ([(S_patch_Hunk.mk ((lget h s103).To) ((lget h s103).Add) ((lget h s103).At) ((lget h s103).Del) r266)])) → ((inR .i64 (s103 + (1 : Int))) ∧ ((I200 l299 (s103 + (1 : Int))) ∧ m201 l299 (s103 + (1 : Int)) < m201 out98 s103)))))))))))))) ∧ ((¬ (s103 < (h.length : Int))) → (slices_Clip_patch_Hunk_patch_Hunk_p out98 (fun (r313 : (List S_patch_Hunk)) => ((r313.length ≤ 9223372036854775807) → Q r313))))))))
set_option maxRecDepth 20000 in
set_option maxHeartbeats 4000000 in
theorem patch_Turned_w {X : List Nat} {w : World} {h : (List S_patch_Hunk)} {ah1 : Option Addr} {ch2 : Nat} {Q : (List S_patch_Hunk) → Prop} (hX0 : Old X w) (hh3 : Sl r_patch_Hunk X w ah1 ch2 h) (hp : patch_Turned_p h Q) :
    Calls Tryd.prog 13 #[(.slice ah1 h.length ch2)] w (Ret fun v w' => ∃ (r0 : (List S_patch_Hunk)), Q r0 ∧ Evo [] w w' ∧ ∃ (aq01 : Option Addr) (cq02 : Nat), v = (.slice aq01 r0.length cq02) ∧ Sl r_patch_Hunk X w' aq01 cq02 r0) := by
  have hXo := hX0
  have E0 : Evo [] w w := RB.refl _ _ _
  have hS : Sub X X := Sub.refl _
  unfold patch_Turned_p at hp
  refine enter_ Tryd.func13 rfl 30 [(0, (.slice ah1 h.length ch2))] (by kernel_rfl) (fun Qe hQ => ?_)
  replace hp := hp (Sl.len hh3)
  refine seq_ (fun _ K4 => ?_)
  refine reg_ ?_
  refine sq (o_pv (.slice none 0 0) rfl (by kernel_rfl) ?_)
  refine nil_ ?_
  refine then_normal (K4 _ _ _ _ ?_)
  refine seq_ (fun _ K5 => ?_)
  refine reg_ ?_
  refine sq (o_pv (.slice none 0 0) rfl (by kernel_rfl) ?_)
  refine nil_ ?_
  refine then_normal (K5 _ _ _ _ ?_)
  refine seq_ (fun _ K6 => ?_)
  refine seq_ (fun _ K7 => ?_)
  refine reg_ ?_
  refine sq (o_pv (.slice ah1 h.length ch2) rfl (by kernel_rfl) ?_)
  refine sq (o_pv (.int .i64 (h.length : Int)) rfl (by kernel_rfl) ?_)
  refine sq (o_pv (.int .i64 (0 : Int)) rfl (by kernel_rfl) ?_)
  refine nil_ ?_
  refine then_normal (K7 _ _ _ _ ?_)
  refine wp_block ?_
  obtain ⟨I200, m201, hI202, hp⟩ := hp
  refine loop_ 268435240 (fun kq lq w204 => ∃ (X205 : List Nat) (out98 : (List S_patch_Hunk)) (s103 : Int) (a99 : Option Addr) (n100 : Nat) (c101 : Nat), (lq = [(3, (.slice a99 n100 c101)), (8, (.int .i64 s103))]) ∧ (kq = m201 out98 s103) ∧ (Evo [] w w204) ∧ (Old X205 w204) ∧ (Sub X X205) ∧ (Sl r_patch_Hunk X205 w204 ah1 ch2 h) ∧ (OS r_patch_Hunk ([]) w.heap.size X205 w204 50 a99 n100 c101 out98) ∧ (inR .i64 s103) ∧ (I200 out98 s103)) (m201 ([] : List S_patch_Hunk) (0 : Int)) [(3, (.slice none 0 0)), (8, (.int .i64 (0 : Int)))] (vs_cons (by kernel_rfl) (vs_cons (by kernel_rfl) vs_nil)) ⟨X, ([] : List S_patch_Hunk), (0 : Int), none, 0, 0, rfl, rfl, E0, hXo, hS, hh3, (OS.nil _ _ _ _), (by decide : inR .i64 (0 : Int)), hI202⟩ ?_
  rintro _ _ w204 g207 ⟨X205, out98, s103, a99, n100, c101, rfl, rfl, E210, hXo211, hS212, hh213, O102, rs104, hI203⟩ Kl208 hA209
  replace hp := hp out98 s103 hI203 (OS.len O102) rs104
  refine seq_ (fun _ K214 => ?_)
  refine reg_ ?_
  refine sq (o_pv (.bool (decide (s103 < (h.length : Int)))) rfl (by kernel_rfl) ?_)
  refine nil_ ?_
  refine then_normal (K214 _ _ _ _ ?_)
  refine seq_ (fun _ K215 => ?_)
  refine cond_d (s103 < (h.length : Int)) (by kernel_rfl) (fun h216 => ?_) (fun h216 => ?_)
  ·
    replace hp := hp.1 h216
    refine wp_skip ?_
    refine then_normal (K215 _ _ _ _ ?_)
    refine seq_ (fun _ K217 => ?_)
    refine wp_block ?_
    refine seq_ (fun _ K218 => ?_)
    refine reg_ ?_
    obtain ⟨h219, hp⟩ := hp
    obtain ⟨b220, o221, cs222, ha223, nx224, lt225, ok226, hc227⟩ := Sl.atI hh213 s103 h219
    obtain ⟨aeLines232, ceLines233, rfl, reAt228, reDel229, reTo230, reAdd231, heLines234⟩ := r_patch_Hunk_open ok226
    replace hp := hp reAt228
    replace hp := hp reDel229
    replace hp := hp reTo230
    replace hp := hp reAdd231
    replace hp := hp (Sl.len heLines234)
    refine sq (o_pv (.pointer (some ⟨b220, o221 + s103.toNat * 5, none⟩)) rfl (x_ixA (m := h.length) (c := ch2) (k := .i64) (i := s103) Tryd.underlying31 Tryd.sizeOf50 (by rw [← ha223]; kernel_rfl) (by kernel_rfl) h219) ?_)
    refine sq (o_pv (.agg #[(.int .i64 ((lget h s103).At)), (.int .i64 ((lget h s103).Del)), (.int .i64 ((lget h s103).To)), (.int .i64 ((lget h s103).Add)), (.slice aeLines232 (((lget h s103).Lines).length) ceLines233)]) rfl (x_loadN [(.int .i64 ((lget h s103).At)), (.int .i64 ((lget h s103).Del)), (.int .i64 ((lget h s103).To)), (.int .i64 ((lget h s103).Add)), (.slice aeLines232 (((lget h s103).Lines).length) ceLines233)] (by kernel_rfl) Tryd.isAgg50 Tryd.sizeOf50 hc227) ?_)
    refine sq (o_newX [(.int .i64 (0 : Int)), (.int .i64 (0 : Int)), (.int .i64 (0 : Int)), (.int .i64 (0 : Int)), (.slice none 0 0)] 50 (X := X205) (B := w.heap.size) E210.size rfl (by kernel_rfl) ?_)
    intro b235 w236 X237 s238 k239 n240
    have p241 := n240 _ (OS.old O102)
    have O242 := (OS.step0 O102 s238)
    have E243 := (Evo.then0 E210 (Step.evo s238))
    refine sq (o_stB (o := 0) (v := (.agg #[(.int .i64 ((lget h s103).At)), (.int .i64 ((lget h s103).Del)), (.int .i64 ((lget h s103).To)), (.int .i64 ((lget h s103).Add)), (.slice aeLines232 (((lget h s103).Lines).length) ceLines233)])) [(.int .i64 ((lget h s103).At)), (.int .i64 ((lget h s103).Del)), (.int .i64 ((lget h s103).To)), (.int .i64 ((lget h s103).Add)), (.slice aeLines232 (((lget h s103).Lines).length) ceLines233)] rfl k239 (by kernel_rfl) (by kernel_rfl) Tryd.sizeOf50 rfl rfl rfl ?_)
    intro w244 s245 k246
    refine nil_ ?_
    refine then_normal (K218 _ _ _ _ ?_)
    have E247 := (Evo.thenW E243 (Step.evo s245) k239.2.2)
    have hXo248 := (Old.step (Old.step hXo211 s238) s245)
    have hS249 := (Sub.trans (Sub.trans hS212 (Step.up s238)) (Step.up s245))
    have hh250 := (Sl.step (Sl.step hh213 s238) s245)
    have O251 := (OS.step O242 s245 p241)
    have heLines252 := (Sl.step (Sl.step heLines234 s238) s245)
    refine reg_drawn (RB w244.heap.size []) 14 (by kernel_rfl) (fun w253 hd254 => ?_)
    have e255 := Evo.of_drew hd254
    have z256 : w253.heap.size = w244.heap.size := by rw [hd254]
    clear hd254
    have s258 := Step.of0 X237 e255
    have er257 := RB.refl w244.heap.size [] w253
    have E259 := (Evo.then0 E247 (Step.evo s258))
    have hXo260 := (Old.step hXo248 s258)
    have hS261 := (Sub.trans hS249 (Step.up s258))
    have hh262 := (Sl.step hh250 s258)
    have O263 := (OS.step0 O251 s258)
    have heLines264 := (Sl.step heLines252 s258)
    have k265 := (OB.step0 k246 s258)
    refine r_take 0 (.slice a99 n100 c101) (RB.pre _ _) rfl (by kernel_rfl) (fun _ _ _ h => hQ.panic _ _ _ _ _ h) (.inl ⟨rfl, fun wq hq => (by kernel_rfl)⟩) ?_
    refine r_take 1 (.pointer (some ⟨b235, 2, none⟩)) (RB.pre _ _) rfl (by kernel_rfl) (fun _ _ _ h => hQ.panic _ _ _ _ _ h) (.inl ⟨rfl, fun wq hq => (by kernel_rfl)⟩) ?_
    refine r_take 2 (.int .i64 ((lget h s103).To)) (RB.pre _ _) rfl (by kernel_rfl) (fun _ _ _ h => hQ.panic _ _ _ _ _ h) (.inl ⟨rfl, fun wq hq => (x_load1 (by kernel_rfl) Tryd.isAgg3 ((Blk.rb k265.2.1 (RB.trans er257 hq) (Nat.lt_of_lt_of_eq (Blk.lt k265.2.1) z256) (fun h => by cases h)).cell' 2 rfl))⟩) ?_
    refine r_take 3 (.pointer (some ⟨b235, 3, none⟩)) (RB.pre _ _) rfl (by kernel_rfl) (fun _ _ _ h => hQ.panic _ _ _ _ _ h) (.inl ⟨rfl, fun wq hq => (by kernel_rfl)⟩) ?_
    refine r_take 4 (.int .i64 ((lget h s103).Add)) (RB.pre _ _) rfl (by kernel_rfl) (fun _ _ _ h => hQ.panic _ _ _ _ _ h) (.inl ⟨rfl, fun wq hq => (x_load1 (by kernel_rfl) Tryd.isAgg3 ((Blk.rb k265.2.1 (RB.trans er257 hq) (Nat.lt_of_lt_of_eq (Blk.lt k265.2.1) z256) (fun h => by cases h)).cell' 3 rfl))⟩) ?_
    refine r_take 5 (.pointer (some ⟨b235, 0, none⟩)) (RB.pre _ _) rfl (by kernel_rfl) (fun _ _ _ h => hQ.panic _ _ _ _ _ h) (.inl ⟨rfl, fun wq hq => (by kernel_rfl)⟩) ?_
    refine r_take 6 (.int .i64 ((lget h s103).At)) (RB.pre _ _) rfl (by kernel_rfl) (fun _ _ _ h => hQ.panic _ _ _ _ _ h) (.inl ⟨rfl, fun wq hq => (x_load1 (by kernel_rfl) Tryd.isAgg3 ((Blk.rb k265.2.1 (RB.trans er257 hq) (Nat.lt_of_lt_of_eq (Blk.lt k265.2.1) z256) (fun h => by cases h)).cell' 0 rfl))⟩) ?_
    refine r_take 7 (.pointer (some ⟨b235, 1, none⟩)) (RB.pre _ _) rfl (by kernel_rfl) (fun _ _ _ h => hQ.panic _ _ _ _ _ h) (.inl ⟨rfl, fun wq hq => (by kernel_rfl)⟩) ?_
    refine r_take 8 (.int .i64 ((lget h s103).Del)) (RB.pre _ _) rfl (by kernel_rfl) (fun _ _ _ h => hQ.panic _ _ _ _ _ h) (.inl ⟨rfl, fun wq hq => (x_load1 (by kernel_rfl) Tryd.isAgg3 ((Blk.rb k265.2.1 (RB.trans er257 hq) (Nat.lt_of_lt_of_eq (Blk.lt k265.2.1) z256) (fun h => by cases h)).cell' 1 rfl))⟩) ?_
    refine r_take 9 (.pointer (some ⟨b235, 4, none⟩)) (RB.pre _ _) rfl (by kernel_rfl) (fun _ _ _ h => hQ.panic _ _ _ _ _ h) (.inl ⟨rfl, fun wq hq => (by kernel_rfl)⟩) ?_
    refine r_take 10 (.slice aeLines232 (((lget h s103).Lines).length) ceLines233) (RB.pre _ _) rfl (by kernel_rfl) (fun _ _ _ h => hQ.panic _ _ _ _ _ h) (.inl ⟨rfl, fun wq hq => (x_load1 (by kernel_rfl) Tryd.isAgg33 ((Blk.rb k265.2.1 (RB.trans er257 hq) (Nat.lt_of_lt_of_eq (Blk.lt k265.2.1) z256) (fun h => by cases h)).cell' 4 rfl))⟩) ?_
    refine r_ready [11] (by kernel_rfl) rfl (all_cons ⟨_, _, _, _, _, _, rfl, ?_⟩ all_nil)
    refine o_call 30 #[(.slice aeLines232 ((lget h s103).Lines).length ceLines233)] rfl (x_call Tryd.call30 (by rw []; kernel_rfl)) (patch_turned_w (X := X237) (l := (lget h s103).Lines) hXo260 heLines264 hp) ?_
    rintro _ w267 ⟨r266, hp, e268, ar270, cr271, rfl, hr272⟩
    have rm := RB.mono (F' := []) e268 (Nat.le_trans (Nat.le_of_eq z256.symm) (RB.size er257)) (fun _ h => by cases h)
    have er273 := RB.trans er257 rm
    refine ⟨fun _ => rm, ?_⟩
    have s269 := Step.of0 X237 e268
    replace hp := hp (Sl.len hr272)
    refine r_take 12 (.agg #[(.int .i64 ((lget h s103).To)), (.int .i64 ((lget h s103).Add)), (.int .i64 ((lget h s103).At)), (.int .i64 ((lget h s103).Del)), (.slice ar270 r266.length cr271)]) (RB.pre _ _) rfl (by kernel_rfl) (fun _ _ _ h => hQ.panic _ _ _ _ _ h) (.inl ⟨rfl, fun wq hq => (by kernel_rfl)⟩) ?_
    refine r_ready [13] (by kernel_rfl) rfl (all_cons ⟨_, _, _, _, _, _, rfl, ?_⟩ all_nil)
    have O274 := (OS.step0 O263 s269)
    have k275 := (OB.step0 k265 s269)
    have E282 := (Evo.then0 E259 e268)
    refine o_rowX (R := r_patch_Hunk) [(.int .i64 ((lget h s103).To)), (.int .i64 ((lget h s103).Add)), (.int .i64 ((lget h s103).At)), (.int .i64 ((lget h s103).Del)), (.slice ar270 r266.length cr271)] [(S_patch_Hunk.mk ((lget h s103).To) ((lget h s103).Add) ((lget h s103).At) ((lget h s103).Del) r266)] 50 1 (X := X237) (B := w.heap.size) E282.size rfl (by kernel_rfl) (Flat.cons (cs := [(.int .i64 ((lget h s103).To)), (.int .i64 ((lget h s103).Add)), (.int .i64 ((lget h s103).At)), (.int .i64 ((lget h s103).Del)), (.slice ar270 r266.length cr271)]) (r_patch_Hunk_mk reTo230 reAdd231 reAt228 reDel229 hr272 rfl) Flat.nil) rfl (by decide) ?_
    intro b276 w277 X278 s279 O280 n281
    have nb283 := new_of (Nat.le_trans (Nat.le_of_eq z256.symm) (RB.size er273)) n281
    have rm := RB.mono (F' := []) (Step.evo s279) (Nat.le_trans (Nat.le_of_eq z256.symm) (RB.size er273)) (fun _ h => by cases h)
    have er284 := RB.trans er273 rm
    refine ⟨fun _ => rm, ?_⟩
    have p285 := n281 _ (OS.old O274)
    have p286 := n281 _ (OB.old k275)
    refine r_ready [14] (by kernel_rfl) rfl (all_cons ⟨_, _, _, _, _, _, rfl, ?_⟩ all_nil)
    obtain ⟨h287, hp⟩ := hp
    have O288 := (OS.step0 O274 s279)
    have k289 := (OB.step0 k275 s279)
    have E290 := (Evo.then0 E282 (Step.evo s279))
    refine o_appX (R := r_patch_Hunk) (X := X278) (B := w.heap.size) (L := out98) (M := [(S_patch_Hunk.mk ((lget h s103).To) ((lget h s103).Add) ((lget h s103).At) ((lget h s103).Del) r266)]) rfl elT31 rfl E290.size O288 (OS.src O280) O280.1 (by kernel_rfl) (by kernel_rfl) h287 ?_
    intro a291 n292 c293 w294 X295 s296 O297 gr298
    refine ⟨fun h => absurd h (by decide), ?_⟩
    obtain ⟨l299, ql299⟩ : ∃ y, y = (out98 ++ ([(S_patch_Hunk.mk ((lget h s103).To) ((lget h s103).Add) ((lget h s103).At) ((lget h s103).Del) r266)])) := ⟨_, rfl⟩
    replace hp := hp l299 ql299
    rw [← ql299] at O297
    have p300 := gr298 _ (Ap.symm p241) (OB.old k289)
    refine r_ready [15] (by kernel_rfl) rfl (all_cons ⟨_, _, _, _, _, _, rfl, ?_⟩ all_nil)
    refine o_pv (.slice a291 n292 c293) rfl (by kernel_rfl) ?_
    refine ⟨fun h => absurd h (by decide), ?_⟩
    refine r_done (by kernel_rfl) ?_
    refine blk_normal ?_
    refine then_normal (K217 _ _ _ _ ?_)
    refine reg_ ?_
    obtain ⟨h301, hp⟩ := hp
    refine sq (o_pv (.int .i64 (s103 + (1 : Int))) rfl (x_add2 (k := .i64) (a := s103) (b := (1 : Int)) (s103 + (1 : Int)) (by kernel_rfl) (by kernel_rfl) (wrap_inR h301)) ?_)
    refine sq (o_pv (.int .i64 (s103 + (1 : Int))) rfl (by kernel_rfl) ?_)
    refine nil_ ?_
    have E302 := (Evo.thenW E290 (Step.evo s296) O288.2.2)
    have hXo303 := (Old.step (Old.step (Old.step hXo260 s269) s279) s296)
    have hS304 := (Sub.trans (Sub.trans (Sub.trans hS261 (Step.up s269)) (Step.up s279)) (Step.up s296))
    have hh305 := (Sl.step (Sl.step (Sl.step hh262 s269) s279) s296)
    refine then_normal (hA209 _ _ _ ⟨_, [(3, (.slice a291 n292 c293)), (8, (.int .i64 (s103 + (1 : Int))))], hp.2, fit_mk (AgB.mix _ _ _) (by kernel_rfl) (vs_cons (by kernel_rfl) (vs_cons (by kernel_rfl) vs_nil)), ?_⟩)
    exact ⟨X295, l299, (s103 + (1 : Int)), a291, n292, c293, rfl, rfl, E302, hXo303, hS304, hh305, O297, h301, hp.1⟩
  ·
    replace hp := hp.2 h216
    refine wp_exit ?_
    refine then_exit ?_
    refine then_exit ?_
    refine blk_exit ?_
    refine then_normal (K6 _ _ _ _ ?_)
    refine seq_ (fun _ K306 => ?_)
    refine reg_ ?_
    refine sq (o_pv (.slice a99 n100 c101) rfl (by kernel_rfl) ?_)
    have ax311 := OS.apold O102 hX0
    obtain ⟨X307, u308, r309, hm310⟩ := OS.release O102
    obtain rfl : n100 = out98.length := O102.1
    have hXo312 := (Old.less hXo211 u308)
    refine sq (o_call 21 #[(.slice a99 out98.length c101)] rfl (x_call Tryd.call21 (by kernel_rfl)) (slices_Clip_patch_Hunk_patch_Hunk_w (X := X307) (s := out98) hXo312 r309 hp) ?_)
    rintro _ w314 ⟨r313, hp, e315, ar317, rfl, hr318⟩
    have s316 := Step.of0 X307 e315
    replace hp := hp (Sl.len hr318)
    refine sq (o_pv (.slice ar317 r313.length r313.length) rfl (by kernel_rfl) ?_)
    refine nil_ ?_
    refine then_normal (K306 _ _ _ _ ?_)
    refine wp_ret ?_
    have hS319 := (Sub.trans (hm310 _ ax311 hS212) (Step.up s316))
    have E320 := (Evo.then0 E210 e315)
    refine end_ret hQ (.slice ar317 r313.length r313.length) (by kernel_rfl) ?_
    exact ⟨r313, hp, E320, ar317, r313.length, rfl, (Sl.less hr318 hS319)⟩

/-- strconv.Itoa. -/
def strconv_Itoa_p (i : Int) (Q : ByteArray → Prop) : Prop := Q ⟨(Lib.itoa i).toArray⟩
theorem Evo_grow (w : World) (k : Nat) (os : Array Go.Obj) : Evo [] w (Go.Sort.grow (w.drewN k) os) := by
  refine ⟨rfl, rfl, rfl, by simp [Go.Sort.grow, World.drewN], fun b hb _ => ?_⟩
  show (w.heap ++ os)[b]? = w.heap[b]?
  exact Array.getElem?_append_left hb
theorem strconv_Itoa_w {X : List Nat} {w : World} {i : Int} {Q : ByteArray → Prop} (_hX0 : Old X w) (hi : inR .i64 i) (hgv : GV X w 0 (Lib.pow10Tab.map (Value.int .u64))) (hp : strconv_Itoa_p i Q) :
    Calls Tryd.prog 24 #[(.int .i64 i)] w (Ret fun v w' => ∃ r0 : ByteArray, Q r0 ∧ Evo [] w w' ∧ v = (.string r0) ∧ r0.size ≤ maxLen) := by
  rw [inR_i64] at hi
  refine (Tryd.strconv_Itoa i hi.1 (by omega) w (by unfold Lib.TabIs; exact GV.var (by kernel_rfl) hgv)).mono ?_
  rintro e w' ⟨rfl, k, os, rfl⟩
  refine ⟨_, rfl, _, hp, Evo_grow w k os, rfl, ?_⟩
  show (Lib.itoa i).toArray.size ≤ _
  rw [List.size_toArray]
  exact Nat.le_trans (Lib.itoa_length_le i hi.1 (by omega)) (by decide)

def strings_Builder_copyCheck_p (b : S_strings_Builder) (Q : S_strings_Builder → Prop) : Prop :=
  ((b.buf.length ≤ 9223372036854775807) → ((((!b.addr) = true) → Q (S_strings_Builder.mk true b.buf)) ∧ (((!b.addr) = false) → ((((!b.addr) = true) → False) ∧ (((!b.addr) = false) → Q b)))))
set_option maxRecDepth 20000 in
set_option maxHeartbeats 4000000 in
theorem strings_Builder_copyCheck_w {X : List Nat} {w : World} {b : S_strings_Builder} {bb1 : Nat} {Fb2 : List Nat} {Q : S_strings_Builder → Prop} (hX0 : Old X w) (mb3 : MO (o_strings_Builder bb1) 66 Fb2 w.heap.size X w Fb2 bb1 b) (hp : strings_Builder_copyCheck_p b Q) :
    Calls Tryd.prog 38 #[(.pointer (some ⟨bb1, 0, none⟩))] w (Ret fun v w' => ∃ (m0 : S_strings_Builder), Q m0 ∧ ∃ (X' : List Nat) (Fm0 : List Nat), Step X w Fb2 X' w' ∧ v = .tuple #[] ∧ MO (o_strings_Builder bb1) 66 Fb2 w.heap.size X' w' Fm0 bb1 m0) := by
  have hXo := hX0
  have E0 : Evo Fb2 w w := RB.refl _ _ _
  have hS : Sub X X := Sub.refl _
  have hN : News X w X w := News.refl _ _
  have hF0 : Sub Fb2 X := MO.mem mb3
  unfold strings_Builder_copyCheck_p at hp
  refine enter_ Tryd.func38 rfl 20 [(0, (.pointer (some ⟨bb1, 0, none⟩)))] (by kernel_rfl) (fun Qe hQ => ?_)
  refine seq_ (fun _ K4 => ?_)
  refine reg_ ?_
  refine sq (o_pv (.pointer (some ⟨bb1, 0, none⟩)) rfl (by kernel_rfl) ?_)
  refine sq (o_pv (.pointer (some ⟨bb1, 0, none⟩)) rfl (by kernel_rfl) ?_)
  obtain ⟨ao5, no6, co7, k9, Oo8, sb10, sb11, p12⟩ := o_strings_Builder_open mb3
  replace hp := hp (OS.len Oo8)
  refine sq (o_pv (.pointer (some ⟨bb1, 0, none⟩)) rfl (by kernel_rfl) ?_)
  refine sq (o_pv (cond b.addr (.pointer (some ⟨bb1, 0, none⟩)) (.pointer none)) rfl (x_load1 (by kernel_rfl) Tryd.isAgg63 (k9.2.1.cell' 0 rfl)) ?_)
  refine sq (o_pv (.bool (!b.addr)) rfl (x_self_eq (b := bb1) (d := b.addr) Tryd.underlying63 (by kernel_rfl) (by kernel_rfl)) ?_)
  refine nil_ ?_
  refine then_normal (K4 _ _ _ _ ?_)
  refine cond_b (!b.addr) (by kernel_rfl) (fun h13 => ?_) (fun h13 => ?_)
  ·
    replace hp := hp.1 h13
    refine reg_ ?_
    refine sq (o_pv (.pointer (some ⟨bb1, 0, none⟩)) rfl (by kernel_rfl) ?_)
    refine sq (o_pv (.pointer (some ⟨bb1, 0, none⟩)) rfl (by kernel_rfl) ?_)
    refine sq (o_pv (.pointer (some ⟨bb1, 0, none⟩)) rfl (x_tounsafe (j := Tryd.t66) k9.2.1 rfl Tryd.underlying63 Tryd.underlying88 (by kernel_rfl) (by kernel_rfl) (by kernel_rfl)) ?_)
    refine sq (o_pv (.pointer (some ⟨bb1, 0, none⟩)) rfl (x_ext Tryd.func41 (by kernel_rfl) (by kernel_rfl) (by kernel_rfl) (show _ = some Extern.AbiNoEscape.same by kernel_rfl) #[(.pointer (some ⟨bb1, 0, none⟩))] (by kernel_rfl) (by kernel_rfl)) ?_)
    refine sq (o_pv (.pointer (some ⟨bb1, 0, none⟩)) rfl (x_fromunsafe (j := Tryd.t66) k9.2.1 Tryd.underlying88 Tryd.underlying63 (by kernel_rfl) (by kernel_rfl) (by kernel_rfl)) ?_)
    refine sq (o_pv (.pointer (some ⟨bb1, 0, none⟩)) rfl (by kernel_rfl) ?_)
    refine sq (o_pv (.pointer (some ⟨bb1, 0, none⟩)) rfl (by kernel_rfl) ?_)
    refine sq (o_stB (o := 0) (v := (.pointer (some ⟨bb1, 0, none⟩))) [(.pointer (some ⟨bb1, 0, none⟩)), (.slice ao5 no6 co7)] rfl k9 (by kernel_rfl) (by kernel_rfl) Tryd.sizeOf63 rfl rfl rfl ?_)
    intro w14 s15 k16
    refine nil_ ?_
    have hXo17 := (Old.step hXo s15)
    have E18 := (Evo.thenW E0 (Step.evo s15) k9.2.2)
    have hS19 := (Sub.trans hS (Step.up s15))
    have hN20 := (News.step hN s15)
    have Oo21 := (OS.step Oo8 s15 (Ap.symm p12))
    obtain ⟨F22, m23, hs24⟩ := MO.pack (o_strings_Builder_mk (addrq := true) k16 Oo21 p12)
    refine end_normal hQ (.tuple #[]) (by kernel_rfl) ?_
    exact ⟨(S_strings_Builder.mk true b.buf), hp, X, F22, step_of E18 hF0 hS19 hN20, rfl, m23⟩
  ·
    replace hp := hp.2 h13
    refine seq_ (fun _ K25 => ?_)
    refine reg_ ?_
    refine sq (o_pv (.pointer (some ⟨bb1, 0, none⟩)) rfl (by kernel_rfl) ?_)
    refine sq (o_pv (.pointer (some ⟨bb1, 0, none⟩)) rfl (by kernel_rfl) ?_)
    refine sq (o_pv (.pointer (some ⟨bb1, 0, none⟩)) rfl (by kernel_rfl) ?_)
    refine sq (o_pv (cond b.addr (.pointer (some ⟨bb1, 0, none⟩)) (.pointer none)) rfl (x_load1 (by kernel_rfl) Tryd.isAgg63 (k9.2.1.cell' 0 rfl)) ?_)
    refine sq (o_pv (.pointer (some ⟨bb1, 0, none⟩)) rfl (by kernel_rfl) ?_)
    refine sq (o_pv (.bool (!b.addr)) rfl (x_self_ne (b := bb1) (d := b.addr) (j := Tryd.t66) Tryd.underlying63 (by kernel_rfl) (by kernel_rfl) (by kernel_rfl)) ?_)
    refine nil_ ?_
    refine then_normal (K25 _ _ _ _ ?_)
    refine cond_b (!b.addr) (by kernel_rfl) (fun h26 => ?_) (fun h26 => ?_)
    ·
      replace hp := hp.1 h26
      exact hp.elim
    ·
      replace hp := hp.2 h26
      refine wp_skip ?_
      obtain ⟨F27, m28, hs29⟩ := MO.pack (o_strings_Builder_mk (addrq := b.addr) k9 Oo8 p12)
      refine end_normal hQ (.tuple #[]) (by kernel_rfl) ?_
      exact ⟨b, hp, X, F27, step_of E0 hF0 hS hN, rfl, m28⟩

def strings_Builder_WriteString_p (b : S_strings_Builder) (s : ByteArray) (Q : S_strings_Builder → Int → PErr → Prop) : Prop :=
  ((s.size ≤ maxLen) → (strings_Builder_copyCheck_p b (fun (b7 : S_strings_Builder) => ((b7.buf.length ≤ 9223372036854775807) → ((b7.buf.length + s.size ≤ 140737488355328) ∧ Q (S_strings_Builder.mk b7.addr (b7.buf ++ bytesL s)) (s.size : Int) PErr.nil)))))
set_option maxRecDepth 20000 in
set_option maxHeartbeats 4000000 in
theorem strings_Builder_WriteString_w {X : List Nat} {w : World} {b : S_strings_Builder} {s : ByteArray} {bb1 : Nat} {Fb2 : List Nat} {Q : S_strings_Builder → Int → PErr → Prop} (hX0 : Old X w) (mb3 : MO (o_strings_Builder bb1) 66 Fb2 w.heap.size X w Fb2 bb1 b) (zs4 : s.size ≤ maxLen) (hp : strings_Builder_WriteString_p b s Q) :
    Calls Tryd.prog 23 #[(.pointer (some ⟨bb1, 0, none⟩)), (.string s)] w (Ret fun v w' => ∃ (m0 : S_strings_Builder) (r0 : Int) (r1 : PErr), Q m0 r0 r1 ∧ ∃ (X' : List Nat) (Fm0 : List Nat) (vq12 : Value), Step X w Fb2 X' w' ∧ v = .tuple #[(.int .i64 r0), vq12] ∧ MO (o_strings_Builder bb1) 66 Fb2 w.heap.size X' w' Fm0 bb1 m0 ∧ inR .i64 r0 ∧ (rErr 74 77 79).ok X' w' ([vq12]) r1) := by
  have hXo := hX0
  have E0 : Evo Fb2 w w := RB.refl _ _ _
  have hS : Sub X X := Sub.refl _
  have hN : News X w X w := News.refl _ _
  have hF0 : Sub Fb2 X := MO.mem mb3
  unfold strings_Builder_WriteString_p at hp
  refine enter_ Tryd.func23 rfl 19 [(0, (.pointer (some ⟨bb1, 0, none⟩))), (1, (.string s))] (by kernel_rfl) (fun Qe hQ => ?_)
  replace hp := hp zs4
  refine seq_ (fun _ K5 => ?_)
  refine reg_ ?_
  refine sq (o_pv (.int .i64 (0 : Int)) rfl (by kernel_rfl) ?_)
  refine sq (o_pv .nilIface rfl (by kernel_rfl) ?_)
  refine nil_ ?_
  refine then_normal (K5 _ _ _ _ ?_)
  refine seq_ (fun _ K6 => ?_)
  refine reg_ ?_
  refine sq (o_pv (.pointer (some ⟨bb1, 0, none⟩)) rfl (by kernel_rfl) ?_)
  refine sq (o_call 38 #[(.pointer (some ⟨bb1, 0, none⟩))] rfl (x_call Tryd.call38 (by kernel_rfl)) (strings_Builder_copyCheck_w (X := X) (b := b) hXo (MO.re mb3 (Wr.self _ _ (Sub.refl _))) hp) ?_)
  rintro _ w8 ⟨b7, hp, X9, F11, s10, rfl, m12⟩
  have m13 := MO.re m12 (Wr.trans m12.wr mb3.wr E0.size)
  refine nil_ ?_
  refine then_normal (K6 _ _ _ _ ?_)
  refine seq_ (fun _ K14 => ?_)
  refine reg_ ?_
  refine sq (o_pv (.pointer (some ⟨bb1, 0, none⟩)) rfl (by kernel_rfl) ?_)
  refine sq (o_pv (.pointer (some ⟨bb1, 0, none⟩)) rfl (by kernel_rfl) ?_)
  refine sq (o_pv (.pointer (some ⟨bb1, 0, none⟩)) rfl (by kernel_rfl) ?_)
  obtain ⟨ao15, no16, co17, k19, Oo18, sb20, sb21, p22⟩ := o_strings_Builder_open m13
  replace hp := hp (OS.len Oo18)
  refine sq (o_pv (.pointer (some ⟨bb1, 1, none⟩)) rfl (by kernel_rfl) ?_)
  refine sq (o_pv (.slice ao15 no16 co17) rfl (x_load1 (by kernel_rfl) Tryd.isAgg64 (k19.2.1.cell' 1 rfl)) ?_)
  refine sq (o_pv (.string s) rfl (by kernel_rfl) ?_)
  obtain ⟨h23, hp⟩ := hp
  have E24 := (Evo.thenW E0 (Step.evo s10) mb3.wr)
  refine sq (o_appS (X := X9) (B := w.heap.size) (L := b7.buf) (sv := s) rfl Tryd.underlying64 Tryd.underlying9 (by kernel_rfl) E24.size Oo18 (by kernel_rfl) (by kernel_rfl) h23 ?_)
  intro a25 n26 c27 w28 X29 s30 O31 gr32
  have p33 := gr32 _ p22 (OB.old k19)
  refine sq (o_pv (.pointer (some ⟨bb1, 0, none⟩)) rfl (by kernel_rfl) ?_)
  refine sq (o_pv (.pointer (some ⟨bb1, 1, none⟩)) rfl (by kernel_rfl) ?_)
  have k34 := (OB.step k19 s30 p22)
  have E35 := (Evo.thenW E24 (Step.evo s30) Oo18.2.2)
  refine sq (o_stB (o := 1) (v := (.slice a25 n26 c27)) [(cond b7.addr (.pointer (some ⟨bb1, 0, none⟩)) (.pointer none)), (.slice a25 n26 c27)] rfl k34 (by kernel_rfl) (by kernel_rfl) Tryd.sizeOf64 rfl rfl rfl ?_)
  intro w36 s37 k38
  refine nil_ ?_
  refine then_normal (K14 _ _ _ _ ?_)
  refine seq_ (fun _ K39 => ?_)
  refine reg_ ?_
  refine sq (o_pv (.string s) rfl (by kernel_rfl) ?_)
  refine sq (o_pv (.int .i64 (s.size : Int)) rfl (by kernel_rfl) ?_)
  refine sq (o_pv (.int .i64 (s.size : Int)) rfl (by kernel_rfl) ?_)
  refine sq (o_pv .nilIface rfl (by kernel_rfl) ?_)
  refine nil_ ?_
  refine then_normal (K39 _ _ _ _ ?_)
  refine wp_ret ?_
  have hXo40 := (Old.step (Old.step (Old.step hXo s10) s30) s37)
  have E41 := (Evo.thenW E35 (Step.evo s37) k34.2.2)
  have hS42 := (Sub.trans (Sub.trans (Sub.trans hS (Step.up s10)) (Step.up s30)) (Step.up s37))
  have hN43 := (News.step (News.step (News.step hN s10) s30) s37)
  have O44 := (OS.step O31 s37 (Ap.symm p33))
  obtain ⟨F45, m46, hs47⟩ := MO.pack (o_strings_Builder_mk (addrq := b7.addr) k38 O44 p33)
  refine end_ret hQ (.tuple #[(.int .i64 (s.size : Int)), .nilIface]) (by kernel_rfl) ?_
  exact ⟨(S_strings_Builder.mk b7.addr (b7.buf ++ bytesL s)), (s.size : Int), PErr.nil, hp, X29, F45, .nilIface, step_of E41 hF0 hS42 hN43, rfl, m46, (inR_size zs4), rErr_nil⟩

def patch_sign_p (op : Int) (Q : ByteArray → Prop) : Prop :=
  ((inR .i64 op) → (((op = (2 : Int)) → Q (ByteArray.mk #[45])) ∧ ((¬ (op = (2 : Int))) → (((op = (3 : Int)) → Q (ByteArray.mk #[43])) ∧ ((¬ (op = (3 : Int))) → Q (ByteArray.mk #[32]))))))
set_option maxRecDepth 20000 in
set_option maxHeartbeats 4000000 in
theorem patch_sign_w {X : List Nat} {w : World} {op : Int} {Q : ByteArray → Prop} (hX0 : Old X w) (rop1 : inR .i64 op) (hp : patch_sign_p op Q) :
    Calls Tryd.prog 25 #[(.int .i64 op)] w (Ret fun v w' => ∃ (r0 : ByteArray), Q r0 ∧ Evo [] w w' ∧ v = (.string r0) ∧ r0.size ≤ maxLen) := by
  have hXo := hX0
  have E0 : Evo [] w w := RB.refl _ _ _
  have hS : Sub X X := Sub.refl _
  unfold patch_sign_p at hp
  refine enter_ Tryd.func25 rfl 8 [(0, (.int .i64 op))] (by kernel_rfl) (fun Qe hQ => ?_)
  replace hp := hp rop1
  refine seq_ (fun _ K2 => ?_)
  refine reg_ ?_
  refine sq (o_pv (.string (ByteArray.mk #[])) rfl (by kernel_rfl) ?_)
  refine nil_ ?_
  refine then_normal (K2 _ _ _ _ ?_)
  refine seq_ (fun _ K3 => ?_)
  refine seq_ (fun _ K4 => ?_)
  refine reg_ ?_
  refine sq (o_pv (.int .i64 op) rfl (by kernel_rfl) ?_)
  refine nil_ ?_
  refine then_normal (K4 _ _ _ _ ?_)
  refine wp_block ?_
  refine seq_ (fun _ K5 => ?_)
  refine reg_ ?_
  refine sq (o_pv (.bool (decide (op = (2 : Int)))) rfl (by kernel_rfl) ?_)
  refine sq (o_pv (.bool (decide (op = (2 : Int)))) rfl (by kernel_rfl) ?_)
  refine nil_ ?_
  refine then_normal (K5 _ _ _ _ ?_)
  refine cond_d (op = (2 : Int)) (by kernel_rfl) (fun h6 => ?_) (fun h6 => ?_)
  ·
    replace hp := hp.1 h6
    refine seq_ (fun _ K7 => ?_)
    refine reg_ ?_
    refine sq (o_pv (.string (ByteArray.mk #[45])) rfl (by kernel_rfl) ?_)
    refine nil_ ?_
    refine then_normal (K7 _ _ _ _ ?_)
    refine wp_ret ?_
    refine blk_ret ?_
    refine then_ret ?_
    refine end_ret hQ (.string (ByteArray.mk #[45])) (by kernel_rfl) ?_
    exact ⟨(ByteArray.mk #[45]), hp, E0, rfl, (by decide : (ByteArray.mk #[45]).size ≤ maxLen)⟩
  ·
    replace hp := hp.2 h6
    refine seq_ (fun _ K8 => ?_)
    refine reg_ ?_
    refine sq (o_pv (.bool (decide (op = (3 : Int)))) rfl (by kernel_rfl) ?_)
    refine sq (o_pv (.bool (decide (op = (3 : Int)))) rfl (by kernel_rfl) ?_)
    refine nil_ ?_
    refine then_normal (K8 _ _ _ _ ?_)
    refine cond_d (op = (3 : Int)) (by kernel_rfl) (fun h9 => ?_) (fun h9 => ?_)
    ·
      replace hp := hp.1 h9
      refine seq_ (fun _ K10 => ?_)
      refine reg_ ?_
      refine sq (o_pv (.string (ByteArray.mk #[43])) rfl (by kernel_rfl) ?_)
      refine nil_ ?_
      refine then_normal (K10 _ _ _ _ ?_)
      refine wp_ret ?_
      refine blk_ret ?_
      refine then_ret ?_
      refine end_ret hQ (.string (ByteArray.mk #[43])) (by kernel_rfl) ?_
      exact ⟨(ByteArray.mk #[43]), hp, E0, rfl, (by decide : (ByteArray.mk #[43]).size ≤ maxLen)⟩
    ·
      replace hp := hp.2 h9
      refine wp_skip ?_
      refine blk_normal ?_
      refine then_normal (K3 _ _ _ _ ?_)
      refine seq_ (fun _ K11 => ?_)
      refine reg_ ?_
      refine sq (o_pv (.string (ByteArray.mk #[32])) rfl (by kernel_rfl) ?_)
      refine nil_ ?_
      refine then_normal (K11 _ _ _ _ ?_)
      refine wp_ret ?_
      refine end_ret hQ (.string (ByteArray.mk #[32])) (by kernel_rfl) ?_
      exact ⟨(ByteArray.mk #[32]), hp, E0, rfl, (by decide : (ByteArray.mk #[32]).size ≤ maxLen)⟩

def internal_stringslite_HasSuffix_p (s : ByteArray) (suffix : ByteArray) (Q : Bool → Prop) : Prop :=
  ((s.size ≤ maxLen) → ((suffix.size ≤ maxLen) → (((((s.size : Int) ≥ (suffix.size : Int)) → ((inR .i64 ((s.size : Int) - (suffix.size : Int))) ∧ ((0 ≤ ((s.size : Int) - (suffix.size : Int)) ∧ ((s.size : Int) - (suffix.size : Int)) ≤ (s.size : Int) ∧ (s.size : Int) ≤ (s.size : Int)) ∧ True))) ∧ ((¬ ((s.size : Int) ≥ (suffix.size : Int))) → True)) ∧ Q (decide (((s.size : Int) ≥ (suffix.size : Int)) ∧ ((bsub s ((s.size : Int) - (suffix.size : Int)) (s.size : Int) : ByteArray) = suffix))))))
set_option maxRecDepth 20000 in
set_option maxHeartbeats 4000000 in
theorem internal_stringslite_HasSuffix_w {X : List Nat} {w : World} {s : ByteArray} {suffix : ByteArray} {Q : Bool → Prop} (hX0 : Old X w) (zs1 : s.size ≤ maxLen) (zsuffix2 : suffix.size ≤ maxLen) (hp : internal_stringslite_HasSuffix_p s suffix Q) :
    Calls Tryd.prog 43 #[(.string s), (.string suffix)] w (Ret fun v w' => ∃ (r0 : Bool), Q r0 ∧ Evo [] w w' ∧ v = (.bool r0)) := by
  have hXo := hX0
  have E0 : Evo [] w w := RB.refl _ _ _
  have hS : Sub X X := Sub.refl _
  unfold internal_stringslite_HasSuffix_p at hp
  refine enter_ Tryd.func43 rfl 21 [(0, (.string s)), (1, (.string suffix))] (by kernel_rfl) (fun Qe hQ => ?_)
  replace hp := hp zs1
  replace hp := hp zsuffix2
  refine seq_ (fun _ K3 => ?_)
  refine reg_ ?_
  refine sq (o_pv (.bool false) rfl (by kernel_rfl) ?_)
  refine nil_ ?_
  refine then_normal (K3 _ _ _ _ ?_)
  refine seq_ (fun _ K4 => ?_)
  obtain ⟨hp, hq⟩ := hp
  refine ground_ ?_
  refine join_ 2097136 (fun lq w10 => lq = [(4, (.bool (decide (((s.size : Int) ≥ (suffix.size : Int)) ∧ ((bsub s ((s.size : Int) - (suffix.size : Int)) (s.size : Int) : ByteArray) = suffix)))))] ∧ w = w10) (fun Kj8 hJ9 => ?_) ?_
  ·
    refine reg_ ?_
    refine sq (o_pv (.string s) rfl (by kernel_rfl) ?_)
    refine sq (o_pv (.int .i64 (s.size : Int)) rfl (by kernel_rfl) ?_)
    refine sq (o_pv (.string suffix) rfl (by kernel_rfl) ?_)
    refine sq (o_pv (.int .i64 (suffix.size : Int)) rfl (by kernel_rfl) ?_)
    by_cases h12 : (s.size : Int) ≥ (suffix.size : Int)
    ·
      replace hp := hp.1 h12
      refine sq (o_pv (.bool true) rfl (x_dt (p := (s.size : Int) ≥ (suffix.size : Int)) (by kernel_rfl) h12) ?_)
      refine sq (o_pv (.bool true) rfl (by kernel_rfl) ?_)
      refine sq (o_pv (.string s) (by kernel_rfl) (by kernel_rfl) ?_)
      refine sq (o_pv (.string s) (by kernel_rfl) (by kernel_rfl) ?_)
      refine sq (o_pv (.int .i64 (s.size : Int)) (by kernel_rfl) (by kernel_rfl) ?_)
      refine sq (o_pv (.string suffix) (by kernel_rfl) (by kernel_rfl) ?_)
      refine sq (o_pv (.int .i64 (suffix.size : Int)) (by kernel_rfl) (by kernel_rfl) ?_)
      obtain ⟨h13, hp⟩ := hp
      refine sq (o_pv (.int .i64 ((s.size : Int) - (suffix.size : Int))) (by kernel_rfl) (x_sub2 (k := .i64) (a := (s.size : Int)) (b := (suffix.size : Int)) ((s.size : Int) - (suffix.size : Int)) (by kernel_rfl) (by kernel_rfl) (wrap_inR h13)) ?_)
      obtain ⟨h14, hp⟩ := hp
      refine sq (o_pv (.string (bsub s ((s.size : Int) - (suffix.size : Int)) (s.size : Int))) (by kernel_rfl) (x_sub10 (k := .i64) (by kernel_rfl) (by kernel_rfl)  Tryd.underlying9 h14) ?_)
      refine sq (o_pv (.string suffix) (by kernel_rfl) (by kernel_rfl) ?_)
      refine sq (o_pv (.bool (decide ((bsub s ((s.size : Int) - (suffix.size : Int)) (s.size : Int) : ByteArray) = suffix))) (by kernel_rfl) (x_streq (by kernel_rfl) (by kernel_rfl)) ?_)
      refine sq (o_pv (.bool (decide ((bsub s ((s.size : Int) - (suffix.size : Int)) (s.size : Int) : ByteArray) = suffix))) rfl (by kernel_rfl) ?_)
      refine sq (o_pv (.bool (decide ((bsub s ((s.size : Int) - (suffix.size : Int)) (s.size : Int) : ByteArray) = suffix))) rfl (by kernel_rfl) ?_)
      refine nil_ ?_
      refine then_normal (hJ9 _ _ _ ⟨[(4, (.bool (decide (((s.size : Int) ≥ (suffix.size : Int)) ∧ ((bsub s ((s.size : Int) - (suffix.size : Int)) (s.size : Int) : ByteArray) = suffix)))))], fit_mk (fun _ _ => rfl) (by kernel_rfl) (vs_cons (Eq.trans (b := (.bool (decide ((bsub s ((s.size : Int) - (suffix.size : Int)) (s.size : Int) : ByteArray) = suffix)))) (by kernel_rfl) (dec_d ((and_iff_right h12).trans Iff.rfl)).symm) vs_nil), rfl, rfl⟩)
    ·
      replace hp := hp.2 h12
      refine sq (o_pv (.bool false) rfl (x_df (p := (s.size : Int) ≥ (suffix.size : Int)) (by kernel_rfl) h12) ?_)
      refine sq (o_pv (.bool false) rfl (by kernel_rfl) ?_)
      refine sq (o_not (by kernel_rfl) ?_)
      refine sq (o_not (by kernel_rfl) ?_)
      refine sq (o_not (by kernel_rfl) ?_)
      refine sq (o_not (by kernel_rfl) ?_)
      refine sq (o_not (by kernel_rfl) ?_)
      refine sq (o_not (by kernel_rfl) ?_)
      refine sq (o_not (by kernel_rfl) ?_)
      refine sq (o_not (by kernel_rfl) ?_)
      refine sq (o_not (by kernel_rfl) ?_)
      refine sq (o_pv (.bool false) rfl (by kernel_rfl) ?_)
      refine sq (o_pv (.bool false) rfl (by kernel_rfl) ?_)
      refine nil_ ?_
      refine then_normal (hJ9 _ _ _ ⟨[(4, (.bool (decide (((s.size : Int) ≥ (suffix.size : Int)) ∧ ((bsub s ((s.size : Int) - (suffix.size : Int)) (s.size : Int) : ByteArray) = suffix)))))], fit_mk (fun _ _ => rfl) (by kernel_rfl) (vs_cons (Eq.trans (b := (.bool false)) (by kernel_rfl) (dec_f (iff_false_intro (fun h => h12 h.1))).symm) vs_nil), rfl, rfl⟩)
  ·
    rintro _ w10 g11 ⟨rfl, hw⟩
    subst hw
    have hp := hq
    refine then_normal (K4 _ _ _ _ ?_)
    refine wp_ret ?_
    refine end_ret hQ (.bool (decide (((s.size : Int) ≥ (suffix.size : Int)) ∧ ((bsub s ((s.size : Int) - (suffix.size : Int)) (s.size : Int) : ByteArray) = suffix)))) (by kernel_rfl) ?_
    exact ⟨(decide (((s.size : Int) ≥ (suffix.size : Int)) ∧ ((bsub s ((s.size : Int) - (suffix.size : Int)) (s.size : Int) : ByteArray) = suffix))), hp, E0, rfl⟩

def strings_HasSuffix_p (s : ByteArray) (suffix : ByteArray) (Q : Bool → Prop) : Prop :=
  ((s.size ≤ maxLen) → ((suffix.size ≤ maxLen) → (internal_stringslite_HasSuffix_p s suffix (fun (r5 : Bool) => Q r5))))
set_option maxRecDepth 20000 in
set_option maxHeartbeats 4000000 in
theorem strings_HasSuffix_w {X : List Nat} {w : World} {s : ByteArray} {suffix : ByteArray} {Q : Bool → Prop} (hX0 : Old X w) (zs1 : s.size ≤ maxLen) (zsuffix2 : suffix.size ≤ maxLen) (hp : strings_HasSuffix_p s suffix Q) :
    Calls Tryd.prog 40 #[(.string s), (.string suffix)] w (Ret fun v w' => ∃ (r0 : Bool), Q r0 ∧ Evo [] w w' ∧ v = (.bool r0)) := by
  have hXo := hX0
  have E0 : Evo [] w w := RB.refl _ _ _
  have hS : Sub X X := Sub.refl _
  unfold strings_HasSuffix_p at hp
  refine enter_ Tryd.func40 rfl 8 [(0, (.string s)), (1, (.string suffix))] (by kernel_rfl) (fun Qe hQ => ?_)
  replace hp := hp zs1
  replace hp := hp zsuffix2
  refine seq_ (fun _ K3 => ?_)
  refine reg_ ?_
  refine sq (o_pv (.bool false) rfl (by kernel_rfl) ?_)
  refine nil_ ?_
  refine then_normal (K3 _ _ _ _ ?_)
  refine seq_ (fun _ K4 => ?_)
  refine reg_ ?_
  refine sq (o_pv (.string s) rfl (by kernel_rfl) ?_)
  refine sq (o_pv (.string suffix) rfl (by kernel_rfl) ?_)
  refine sq (o_call 43 #[(.string s), (.string suffix)] rfl (x_call Tryd.call43 (by kernel_rfl)) (internal_stringslite_HasSuffix_w (X := []) (s := s) (suffix := suffix) (Old.nil _) zs1 zsuffix2 hp) ?_)
  rintro _ w6 ⟨r5, hp, e7, rfl⟩
  have s8 := Step.of0 X e7
  refine sq (o_pv (.bool r5) rfl (by kernel_rfl) ?_)
  refine nil_ ?_
  refine then_normal (K4 _ _ _ _ ?_)
  refine wp_ret ?_
  have E9 := (Evo.then0 E0 e7)
  refine end_ret hQ (.bool r5) (by kernel_rfl) ?_
  exact ⟨r5, hp, E9, rfl⟩

def lines_Whole_p (s : ByteArray) (Q : Bool → Prop) : Prop :=
  ((s.size ≤ maxLen) → (∃ k10 : Bool → Prop, (∀ (s9 : Bool), k10 s9 → Q s9) ∧ ((((s : ByteArray) = (ByteArray.mk #[])) → (k10 true)) ∧ ((¬ ((s : ByteArray) = (ByteArray.mk #[]))) → (strings_HasSuffix_p s (ByteArray.mk #[10]) (fun (r21 : Bool) => (k10 r21)))))))
set_option maxRecDepth 20000 in
set_option maxHeartbeats 4000000 in
theorem lines_Whole_w {X : List Nat} {w : World} {s : ByteArray} {Q : Bool → Prop} (hX0 : Old X w) (zs1 : s.size ≤ maxLen) (hp : lines_Whole_p s Q) :
    Calls Tryd.prog 26 #[(.string s)] w (Ret fun v w' => ∃ (r0 : Bool), Q r0 ∧ Evo [] w w' ∧ v = (.bool r0)) := by
  have hXo := hX0
  have E0 : Evo [] w w := RB.refl _ _ _
  have hS : Sub X X := Sub.refl _
  unfold lines_Whole_p at hp
  refine enter_ Tryd.func26 rfl 9 [(0, (.string s))] (by kernel_rfl) (fun Qe hQ => ?_)
  replace hp := hp zs1
  refine seq_ (fun _ K2 => ?_)
  refine reg_ ?_
  refine sq (o_pv (.bool false) rfl (by kernel_rfl) ?_)
  refine nil_ ?_
  refine then_normal (K2 _ _ _ _ ?_)
  refine seq_ (fun _ K3 => ?_)
  obtain ⟨k10, hk11, hp⟩ := hp
  refine ground_ ?_
  refine join_ 508 (fun lq w12 => ∃ (X13 : List Nat) (s9 : Bool), (lq = [(2, (.bool s9))]) ∧ (Evo [] w w12) ∧ (Old X13 w12) ∧ (Sub X X13) ∧ (k10 s9)) (fun Kj14 hJ15 => ?_) ?_
  ·
    refine reg_ ?_
    refine sq (o_pv (.string s) rfl (by kernel_rfl) ?_)
    by_cases h20 : (s : ByteArray) = (ByteArray.mk #[])
    ·
      replace hp := hp.1 h20
      refine sq (o_pv (.bool true) rfl (x_dt (p := (s : ByteArray) = (ByteArray.mk #[])) (x_streq (by kernel_rfl) (by kernel_rfl)) h20) ?_)
      refine sq (o_pv (.bool true) rfl (by kernel_rfl) ?_)
      refine sq (o_not (by kernel_rfl) ?_)
      refine sq (o_not (by kernel_rfl) ?_)
      refine sq (o_pv (.bool true) rfl (by kernel_rfl) ?_)
      refine sq (o_pv (.bool true) rfl (by kernel_rfl) ?_)
      refine nil_ ?_
      refine then_normal (hJ15 _ _ _ ⟨[(2, (.bool true))], fit_mk (fun _ _ => rfl) (by kernel_rfl) (vs_cons (by kernel_rfl) vs_nil), ?_⟩)
      exact ⟨X, true, rfl, E0, hXo, hS, hp⟩
    ·
      replace hp := hp.2 h20
      refine sq (o_pv (.bool false) rfl (x_df (p := (s : ByteArray) = (ByteArray.mk #[])) (x_streq (by kernel_rfl) (by kernel_rfl)) h20) ?_)
      refine sq (o_pv (.bool false) rfl (by kernel_rfl) ?_)
      refine sq (o_pv (.string s) (by kernel_rfl) (by kernel_rfl) ?_)
      refine sq (o_call 40 #[(.string s), (.string (ByteArray.mk #[10]))] (by kernel_rfl) (x_call Tryd.call40 (by kernel_rfl)) (strings_HasSuffix_w (X := []) (s := s) (suffix := (ByteArray.mk #[10])) (Old.nil _) zs1 (by decide : (ByteArray.mk #[10]).size ≤ maxLen) hp) ?_)
      rintro _ w22 ⟨r21, hp, e23, rfl⟩
      have s24 := Step.of0 X e23
      refine sq (o_pv (.bool r21) rfl (by kernel_rfl) ?_)
      refine sq (o_pv (.bool r21) rfl (by kernel_rfl) ?_)
      refine nil_ ?_
      have E25 := (Evo.then0 E0 e23)
      have hXo26 := (Old.step hXo s24)
      have hS27 := (Sub.trans hS (Step.up s24))
      refine then_normal (hJ15 _ _ _ ⟨[(2, (.bool r21))], fit_mk (fun _ _ => rfl) (by kernel_rfl) (vs_cons (by kernel_rfl) vs_nil), ?_⟩)
      exact ⟨X, r21, rfl, E25, hXo26, hS27, hp⟩
  ·
    rintro _ w12 g28 ⟨X13, s9, rfl, E17, hXo18, hS19, hv16⟩
    replace hp := hk11 s9 hv16
    refine then_normal (K3 _ _ _ _ ?_)
    refine wp_ret ?_
    refine end_ret hQ (.bool s9) (by kernel_rfl) ?_
    exact ⟨s9, hp, E17, rfl⟩

def strings_Builder_String_p (b : S_strings_Builder) (Q : ByteArray → Prop) : Prop :=
  ((b.buf.length ≤ 9223372036854775807) → Q (strOfNums b.buf))
set_option maxRecDepth 20000 in
set_option maxHeartbeats 4000000 in
theorem strings_Builder_String_w {X : List Nat} {w : World} {b : S_strings_Builder} {bb1 : Nat} {Fb2 : List Nat} {Q : ByteArray → Prop} (hX0 : Old X w) (mb3 : MO (o_strings_Builder bb1) 66 Fb2 w.heap.size X w Fb2 bb1 b) (hp : strings_Builder_String_p b Q) :
    Calls Tryd.prog 27 #[(.pointer (some ⟨bb1, 0, none⟩))] w (Ret fun v w' => ∃ (r0 : ByteArray), Q r0 ∧ ∃ (X' : List Nat), Step X w Fb2 X' w' ∧ v = (.string r0) ∧ r0.size ≤ maxLen) := by
  have hXo := hX0
  have E0 : Evo Fb2 w w := RB.refl _ _ _
  have hS : Sub X X := Sub.refl _
  have hN : News X w X w := News.refl _ _
  have hF0 : Sub Fb2 X := MO.mem mb3
  unfold strings_Builder_String_p at hp
  refine enter_ Tryd.func27 rfl 14 [(0, (.pointer (some ⟨bb1, 0, none⟩)))] (by kernel_rfl) (fun Qe hQ => ?_)
  refine seq_ (fun _ K4 => ?_)
  refine reg_ ?_
  refine sq (o_pv (.string (ByteArray.mk #[])) rfl (by kernel_rfl) ?_)
  refine nil_ ?_
  refine then_normal (K4 _ _ _ _ ?_)
  refine seq_ (fun _ K5 => ?_)
  obtain ⟨ao6, no7, co8, k10, Oo9, sb11, sb12, p13⟩ := o_strings_Builder_open mb3
  replace hp := hp (OS.len Oo9)
  refine reg_drawn (RB w.heap.size []) 10 (by kernel_rfl) (fun w14 hd15 => ?_)
  have e16 := Evo.of_drew hd15
  have z17 : w14.heap.size = w.heap.size := by rw [hd15]
  clear hd15
  have s19 := Step.of0 X e16
  have er18 := RB.refl w.heap.size [] w14
  have hXo20 := (Old.step hXo s19)
  have E21 := (Evo.then0 E0 (Step.evo s19))
  have hS22 := (Sub.trans hS (Step.up s19))
  have hN23 := (News.step hN s19)
  have k24 := (OB.step0 k10 s19)
  have Oo25 := (OS.step0 Oo9 s19)
  refine r_take 0 (.pointer (some ⟨bb1, 0, none⟩)) (RB.pre _ _) rfl (by kernel_rfl) (fun _ _ _ h => hQ.panic _ _ _ _ _ h) (.inl ⟨rfl, fun wq hq => (by kernel_rfl)⟩) ?_
  refine r_take 1 (.pointer (some ⟨bb1, 0, none⟩)) (RB.pre _ _) rfl (by kernel_rfl) (fun _ _ _ h => hQ.panic _ _ _ _ _ h) (.inl ⟨rfl, fun wq hq => (by kernel_rfl)⟩) ?_
  refine r_take 2 (.pointer (some ⟨bb1, 1, none⟩)) (RB.pre _ _) rfl (by kernel_rfl) (fun _ _ _ h => hQ.panic _ _ _ _ _ h) (.inl ⟨rfl, fun wq hq => (by kernel_rfl)⟩) ?_
  refine r_take 3 (.slice ao6 no7 co8) (RB.pre _ _) rfl (by kernel_rfl) (fun _ _ _ h => hQ.panic _ _ _ _ _ h) (.inl ⟨rfl, fun wq hq => (x_load1 (by kernel_rfl) Tryd.isAgg64 ((Blk.rb k24.2.1 (RB.trans er18 hq) (Nat.lt_of_lt_of_eq (Blk.lt k24.2.1) z17) (fun h => by cases h)).cell' 1 rfl))⟩) ?_
  refine r_take 5 (.pointer (some ⟨bb1, 0, none⟩)) (RB.pre _ _) rfl (by kernel_rfl) (fun _ _ _ h => hQ.panic _ _ _ _ _ h) (.inl ⟨rfl, fun wq hq => (by kernel_rfl)⟩) ?_
  refine r_take 6 (.pointer (some ⟨bb1, 0, none⟩)) (RB.pre _ _) rfl (by kernel_rfl) (fun _ _ _ h => hQ.panic _ _ _ _ _ h) (.inl ⟨rfl, fun wq hq => (by kernel_rfl)⟩) ?_
  refine r_take 7 (.pointer (some ⟨bb1, 1, none⟩)) (RB.pre _ _) rfl (by kernel_rfl) (fun _ _ _ h => hQ.panic _ _ _ _ _ h) (.inl ⟨rfl, fun wq hq => (by kernel_rfl)⟩) ?_
  refine r_take 8 (.slice ao6 no7 co8) (RB.pre _ _) rfl (by kernel_rfl) (fun _ _ _ h => hQ.panic _ _ _ _ _ h) (.inl ⟨rfl, fun wq hq => (x_load1 (by kernel_rfl) Tryd.isAgg64 ((Blk.rb k24.2.1 (RB.trans er18 hq) (Nat.lt_of_lt_of_eq (Blk.lt k24.2.1) z17) (fun h => by cases h)).cell' 1 rfl))⟩) ?_
  refine r_take 9 (.int .i64 (b.buf.length : Int)) (RB.pre _ _) rfl (by kernel_rfl) (fun _ _ _ h => hQ.panic _ _ _ _ _ h) (.inl ⟨rfl, fun wq hq => (by rw [← show no7 = b.buf.length from Oo25.1]; kernel_rfl)⟩) ?_
  refine r_ready [4] (by kernel_rfl) rfl (all_cons ⟨_, _, _, _, _, _, rfl, ?_⟩ all_nil)
  refine o_sdata (X := X) rfl Tryd.underlying85 Oo25 (by kernel_rfl) ?_
  intro p26 w27 s28 hd29
  have rm := RB.mono (F' := []) (Step.evo s28) (Nat.le_trans (Nat.le_of_eq z17.symm) (RB.size er18)) (fun _ h => by cases h)
  have er30 := RB.trans er18 rm
  refine ⟨fun _ => rm, ?_⟩
  refine r_ready [10] (by kernel_rfl) rfl (all_cons ⟨_, _, _, _, _, _, rfl, ?_⟩ all_nil)
  have k31 := (OB.step0 k24 s28)
  have Oo32 := (OS.step0 Oo25 s28)
  have hl35 := OS.len Oo32
  refine o_ustr (X := X) (L := b.buf) rfl Tryd.underlying85 (by kernel_rfl) Oo32 hd29 (by kernel_rfl) (by kernel_rfl) ?_
  intro w33 s34
  refine ⟨fun h => absurd h (by decide), ?_⟩
  refine r_ready [11] (by kernel_rfl) rfl (all_cons ⟨_, _, _, _, _, _, rfl, ?_⟩ all_nil)
  refine o_pv (.string (strOfNums b.buf)) rfl (by kernel_rfl) ?_
  refine ⟨fun h => absurd h (by decide), ?_⟩
  refine r_done (by kernel_rfl) ?_
  refine then_normal (K5 _ _ _ _ ?_)
  refine wp_ret ?_
  have hXo36 := (Old.step (Old.step hXo20 s28) s34)
  have E37 := (Evo.thenW (Evo.then0 E21 (Step.evo s28)) (Step.evo s34) Oo32.2.2)
  have hS38 := (Sub.trans (Sub.trans hS22 (Step.up s28)) (Step.up s34))
  have hN39 := (News.step (News.step hN23 s28) s34)
  have k40 := (OB.step k31 s34 p13)
  refine end_ret hQ (.string (strOfNums b.buf)) (by kernel_rfl) ?_
  exact ⟨(strOfNums b.buf), hp, X, step_of E37 hF0 hS38 hN39, rfl, (strOfNums_le hl35)⟩

end Go.Proofs.YtnnbnljofklieaaDoor
