/-
  The walk of the law LogtreeExtends.
-/
import Derived.Test.YteehpfccegnjjaaDoorExtT
import Derived.Test.YteehpfccegnjjaaDoorIncl
namespace Go.Proofs.YteehpfccegnjjaaDoor
open Go Go.RowKit
theorem Digs.cut {w : World} {a : Option Addr} {cap k : Nat} {ds : List (List UInt8)} (h : Digs w (.slice a ds.length cap) ds) (hk : k ≤ ds.length) : k ≤ cap ∧ Digs w (.slice a k cap) (ds.take k) := by
  rcases h.lies with ⟨rfl, _⟩ | ⟨g, o, c, hv, hc, hg, _⟩
  · have : k = 0 := by simpa using hk
    subst this
    exact ⟨by omega, by simp, .inl ⟨rfl, _, _, rfl⟩⟩
  · simp only [Value.slice.injEq] at hv
    obtain ⟨rfl, -, rfl⟩ := hv
    exact ⟨by omega, h.take k hk⟩
theorem seg_take (ds : List (List UInt8)) (m : Nat) : seg ds 0 m = ds.take m := by unfold seg; simp
theorem guardD : Tryd.prog.eqGuardType Tryd.prog.depth 24 = false := by kernel_rfl
theorem quiet_build0 {P : Program} {C : World → Prop} {o : Oper} {a : Act} {w : World} (T : TypeId) (ho : o.op = .build T #[]) (cells : Array Value) (h : P.built T [] = some cells) : o.quietAt P a C w (.agg cells) := by
  refine quiet_run ?_
  unfold execOp
  have h' : P.built T ((#[] : Array (Nat × Operand)).map fun (i, x) => (i, a.eval x)).toList = some cells := by simpa using h
  simp only [ho, Sem.run_bind, run_build w T _ _ h', Result.andThen_ok]
  rfl
theorem built24 : Tryd.prog.built 24 [] = some (List.replicate 32 (V8 0)).toArray := by kernel_rfl
theorem zero23 : (Tryd.prog.info? 23).map (fun i => (i.size, i.zero.map (·.cells))) = some (32, some (List.replicate 32 (V8 0)).toArray) := by kernel_rfl
theorem row_below {D : World → Prop} {w0 wq : World} {g : Nat} {c : Array Value} (h : ∃ w, D w ∧ Below (w.setRow g c).heap.size (w.setRow g c) wq) (hD : ∀ w, D w → Below w0.heap.size w0 w) (hg : w0.heap.size ≤ g) : Below w0.heap.size w0 wq := by
  obtain ⟨w, h1, h2⟩ := h
  have := below_setRow (hD w h1) hg c
  exact this.trans (h2.mono this.size)
theorem other_row {D : World → Prop} {wq : World} {g g2 : Nat} {c z : Array Value} {T : TypeId} (h : ∃ w, D w ∧ Below (w.setRow g c).heap.size (w.setRow g c) wq) (hF : ∀ w, D w → Fresh g2 (.cells z T) w) (hne : g2 ≠ g) : wq.heap[g2]? = some (.cells z T (0, 0)) := by
  obtain ⟨w, h1, h2⟩ := h
  have hs : (w.setRow g c).heap.size = w.heap.size := by simp [World.setRow]
  rw [h2.block g2 (by rw [hs]; exact (hF w h1).1), Go.setRow_other w g g2 c hne]
  exact (hF w h1).2
theorem rows_fin {D : World → Prop} {w0 wt : World} {gx gy : Nat} {x y : List Value} {z : Array Value} {T : TypeId} (h : ∃ wy, (∃ wx, D wx ∧ Below (wx.setRow gx x.toArray).heap.size (wx.setRow gx x.toArray) wy) ∧ Below (wy.setRow gy y.toArray).heap.size (wy.setRow gy y.toArray) wt)
    (hD : ∀ w, D w → Below w0.heap.size w0 w) (hF : ∀ w, D w → Fresh gx (.cells z T) w) (hne : gx ≠ gy) (g1 : w0.heap.size ≤ gx) (g2 : w0.heap.size ≤ gy) : Below w0.heap.size w0 wt ∧ Arr wt gx T x := by
  obtain ⟨wy, ⟨wx, h1, h2⟩, h3⟩ := h
  have hA : Arr wx gx T z.toList := (hF wx h1).2
  have hA2 := (hA.setRow x.toArray).below h2 (hA.setRow x.toArray).lt
  have hA3 := hA2.setRow_other gy y.toArray hne
  exact ⟨row_below (D := fun w => Below w0.heap.size w0 w) ⟨wy, row_below ⟨wx, h1, h2⟩ hD g1, h3⟩ (fun _ h => h) g2, hA3.below h3 hA3.lt⟩
/-- What is known of the world from the extension path on. -/
structure Env (w0 : World) (A : Nat) (vl : Value) (LS : List (List UInt8)) (vp : Value) (pS : List (List UInt8)) (L : List (Nat × TypeId × List Value)) (w : World) : Prop where
  kt : KT w
  dl : Digs w vl LS
  dp : Digs w vp pS
  bw : Below A w0 w
  rows : ∀ x ∈ L, Arr w x.1 x.2.1 x.2.2
  le : A ≤ w.heap.size
theorem Env.below {w0 : World} {A : Nat} {vl : Value} {LS : List (List UInt8)} {vp : Value} {pS : List (List UInt8)} {L : List (Nat × TypeId × List Value)} {w w' : World} (h : Env w0 A vl LS vp pS L w) (hb : Below w.heap.size w w') : Env w0 A vl LS vp pS L w' :=
  ⟨h.kt.below hb (Nat.le_refl _), h.dl.below hb (Nat.le_refl _), h.dp.below hb (Nat.le_refl _), h.bw.trans (hb.mono h.le), fun x hx => (h.rows x hx).below hb (h.rows x hx).lt, Nat.le_trans h.le hb.size⟩
theorem Env.add {w0 : World} {A : Nat} {vl : Value} {LS : List (List UInt8)} {vp : Value} {pS : List (List UInt8)} {L : List (Nat × TypeId × List Value)} {w : World} (h : Env w0 A vl LS vp pS L w) {b : Nat} {T : TypeId} {l : List Value} (hA : Arr w b T l) : Env w0 A vl LS vp pS ((b, T, l) :: L) w :=
  ⟨h.kt, h.dl, h.dp, h.bw, fun x hx => by
    rcases List.mem_cons.1 hx with rfl | hx
    · exact hA
    · exact h.rows x hx, h.le⟩
theorem Env.row {w0 : World} {A : Nat} {vl : Value} {LS : List (List UInt8)} {vp : Value} {pS : List (List UInt8)} {L : List (Nat × TypeId × List Value)} {w : World} (h : Env w0 A vl LS vp pS L w) (b : Nat) (T : TypeId) (l : List Value) (hm : (b, T, l) ∈ L) : Arr w b T l := h.rows _ hm
/-- What Extends answers along the path of a tree. -/
theorem extS_path (LS : List (List UInt8)) (hall : ∀ d ∈ LS, d.length = 32) (h41 : LS.length < 41) (m : Nat) (hm : m ≤ LS.length) (other : List UInt8) (ho : other.length = 32) :
    (pexS LS m LS.length).length ≤ 7 ∧ (∀ d ∈ pexS LS m LS.length, d.length = 32) ∧
    ∃ bd c c2, extS (mtree (LS.take m)) m LS.length (pexS LS m LS.length) = (mtree (LS.take m), bd, 0) ∧ extS other m LS.length (pexS LS m LS.length) = (c, c2, 0) ∧ (m = 0 → c = other ∧ bd = zd) ∧ (m ≠ 0 → bd = mtree LS) ∧ bd.length = 32 ∧ c.length = 32 ∧ c2.length = 32 := by
  by_cases h0 : m = 0
  · subst h0
    have e : pexS LS 0 LS.length = [] := by unfold pexS; rw [if_pos rfl]
    rw [e]
    have hx : ∀ old, extS old ((0 : Nat) : Int) (LS.length : Int) [] = (old, zd, 0) := fun old => by
      unfold extS
      rw [if_neg (by omega)]
      rfl
    exact ⟨by simp, by simp, zd, other, zd, hx _, hx _, fun _ => ⟨rfl, rfl⟩, fun h => absurd rfl h, rfl, ho, rfl⟩
  · have e : pexS LS m LS.length = pexn LS m 0 LS.length true := by unfold pexS; rw [if_neg h0]
    rw [e]
    have hl := pexn_len LS LS.length m 0 LS.length true (by omega) (by omega) hm
    have ha := pexn_all LS hall LS.length m 0 LS.length true (by omega) (by omega) (Nat.le_refl _)
    have hx := pexn_ext LS LS.length (mtree (LS.take m)) m 0 LS.length true (by omega) (by omega) hm (Nat.le_refl _) (fun _ => by rw [seg_take, mtree_pos _ (by rw [List.length_take]; omega)])
    rw [Nat.sub_zero, Nat.sub_zero] at hl hx
    rw [seg_take, seg_whole, ← mtree_pos LS (by omega)] at hx
    have hmt : mroot (LS.take m) = mtree (LS.take m) := (mtree_pos _ (by rw [List.length_take]; omega)).symm
    rw [hmt] at hx
    have hpl := pext_length LS.length other m LS.length true (pexn LS m 0 LS.length true) (Nat.le_refl _) ho ha
    have hE : ∀ old, extS old (m : Int) (LS.length : Int) (pexn LS m 0 LS.length true) = ((pext old m LS.length true (pexn LS m 0 LS.length true)).1, (pext old m LS.length true (pexn LS m 0 LS.length true)).2.1, 0) := fun old => by
      unfold extS
      rw [if_neg (by omega)]
      simp only [Int.toNat_natCast]
      rw [if_neg h0, if_pos hl]
    refine ⟨by rw [hl]; exact pexl_le_pow 6 m LS.length true (by simp; omega), ha, mtree LS, _, _, by rw [hE, hx], hE other, fun h => absurd h h0, fun _ => rfl, mtree_length LS hall, hpl.1, hpl.2⟩
set_option maxRecDepth 100000 in
set_option linter.unusedSimpArgs false in
set_option maxHeartbeats 2000000 in
theorem extendsl_law (n s ls : Int) (w : World) (hn : (Lit.int .u8 n).wf = true) (hs : (Lit.int .u8 s).wf = true) (hls : (Lit.int .u8 ls).wf = true) (hK : KT w) :
    Calls Tryd.prog 8 #[.int .u8 n, .int .u8 s, .int .u8 ls] w fun e w' => e = .returned (.bool true) ∧ Below w.heap.size w w' := by
  obtain ⟨nb, rfl⟩ : ∃ x : UInt8, n = x.toNat := u8_of_wf hn
  obtain ⟨sb, rfl⟩ : ∃ x : UInt8, s = x.toNat := u8_of_wf hs
  obtain ⟨lb, rfl⟩ : ∃ x : UInt8, ls = x.toNat := u8_of_wf hls
  have hall := leaves_all nb sb
  have hlen := leaves_length nb sb
  have hlv := fun w => leaves_any nb sb w
  have h41 : nb.toNat % 41 < 41 := Nat.mod_lt _ (by omega)
  rw [← hlen] at h41
  generalize leaves nb sb = LS at *
  obtain ⟨r, hr, hrl⟩ : ∃ r : Nat, (wrap64 (lb.toNat : Int)).tmod ((LS.length : Int) + 1) = (r : Int) ∧ r < LS.length + 1 :=
    ⟨lb.toNat % (LS.length + 1), by have hpb := lb.toNat_lt; rw [wrap64_nat _ (by omega)]; exact (Int.ofNat_tmod _ _).symm, Nat.mod_lt _ (by omega)⟩
  obtain ⟨m, hm⟩ : ∃ m : Nat, m = LS.length - r := ⟨_, rfl⟩
  have hmi : wrap64 ((LS.length : Int) - (r : Int)) = (m : Int) := by rw [show ((LS.length : Int) - (r : Int)) = (m : Int) by omega]; exact wrap64_nat m (by omega)
  have hml : m ≤ LS.length := by omega
  have HR := Lib.hid hr; have HMI := Lib.hid hmi
  have hu := Lib.hid Tryd.underlying24
  have huR := Lib.hid Tryd.underlying23
  have HK := Lib.hid hK
  have HALL := Lib.hid hall
  clear hn hs hls hlen hK hall hr hmi hm hrl
  go_enter Tryd.func8, Tryd.ntmps8
  go_wp2_with fail
  refine (known_any _ HK.out).mono ?_
  rintro e w1 ⟨rfl, hb1⟩
  have HB1 := Lib.hid hb1
  have HK1 := Lib.hid (HK.out.below hb1 (Nat.le_refl _))
  clear hb1
  go_wp2_with fail
  refine (hlv _).mono ?_
  rintro e w2 ⟨vl, rfl, hD2, hb2⟩
  obtain ⟨al, cl, rfl⟩ := hD2.shape
  have HB2 := Lib.hid (HB1.out.trans (hb2.mono HB1.out.size))
  have HK2 := Lib.hid (HK1.out.below hb2 (Nat.le_refl _))
  have HD2 := Lib.hid hD2
  clear hb2 hD2 HB1 HK1
  go_wp2_with fail
  refine (grown_any LS _ w2 (by omega) HD2.out HK2.out).mono ?_
  rintro e w3 ⟨g, u, rfl, hT3, hb3⟩
  have HB3 := Lib.hid (HB2.out.trans (hb3.mono HB2.out.size))
  have HD3 := Lib.hid (HD2.out.below hb3 (Nat.le_refl _))
  have HT3 := Lib.hid hT3; have HBB := Lib.hid hb3
  clear hT3 hb3
  have hT3 := HT3.out
  clear HT3
  go_upto_region 8 with (fail)
  rw [HR.out, HMI.out]
  clear HR HMI
  obtain ⟨hp7, hpa, bd, c, c2, hS1, hS2, hc0, hb1, hbl, hcl, hc2l⟩ := extS_path LS HALL.out h41 m hml (spoil1 (mtree (LS.take m)) 3 1) (by rw [spoil1_length]; exact mtree_length _ (fun d hd => HALL.out d (List.mem_of_mem_take hd)))
  have hol := mtree_length (LS.take m) (fun d hd => HALL.out d (List.mem_of_mem_take hd))
  have hcut := HD2.out.cut hml
  have hrl := mtree_length LS HALL.out
  have hroot1 := fun w hV => rootE_any (LS.take m) (.slice al m cl) w (by rw [List.length_take]; omega) hV
  have hrootL := fun v w hV => rootE_any LS v w (by omega) hV
  have hext1 := fun v w hV hK => ext_any (mtree (LS.take m)) m LS.length (pexS LS m LS.length) v w hol (by omega) hV hK
  have hext2 := fun v w hV hK => ext_any (spoil1 (mtree (LS.take m)) 3 1) m LS.length (pexS LS m LS.length) v w (by rw [spoil1_length]; exact hol) (by omega) hV hK
  have hextR := fun v w hV => extRS_any (spoil1 (mtree (LS.take m)) 3 1) m LS.length (pexS LS m LS.length) v w (by rw [spoil1_length]; exact hol) hV
  have hback := fun v w hV => back_any (pexS LS m LS.length) v w (by omega) hV
  have hotl : (spoil1 (mtree (LS.take m)) 3 1).length = 32 := by rw [spoil1_length]; exact hol
  have hom := spoil1_map (mtree (LS.take m)) 3 1
  rw [hS1] at hext1
  rw [hS2] at hext2 hextR
  simp only at hext1 hext2 hextR
  have hcall := Extend_ok w2.heap.size g LS (by omega) m LS.length w3 u (.map none) (Nat.le_refl _) hml hT3
  generalize pexS LS m LS.length = pS at *
  generalize spoil1 (mtree (LS.take m)) 3 1 = other at *
  generalize mtree (LS.take m) = old at *
  generalize hmt : mtree LS = top at *
  obtain ⟨lo, hLO, hlom, hlol, hloo⟩ := v8_list old hol
  obtain ⟨lz, hLZ, -, hlzl, hlzo⟩ := v8_list bd hbl
  obtain ⟨lt, hLT, hltm, hltl, hlto⟩ := v8_list other hotl
  obtain ⟨lc, hLC, -, hlcl, hlco⟩ := v8_list c hcl
  obtain ⟨ld, hLD, -, hldl, hldo⟩ := v8_list c2 hc2l
  rw [← hltm, ← hlom] at hom
  have hx3 : lo[3]? = some (V8 (old.getD 3 0)) := by
    rw [hlom, List.getElem?_map, List.getElem?_eq_getElem (by omega), List.getD_eq_getElem?_getD, List.getElem?_eq_getElem (by omega)]
    rfl
  have lo_I := Lib.hid (inf_size infD32 lo hlol); have lo_IR := Lib.hid (inf_size infR32 lo hlol); have lo_S := Lib.hid (st_size lo hlol); have lo_O := Lib.hid (all_oneCell_toArray hloo)
  have lo_L := Lib.hid (show (Tryd.prog.info? 24).map (·.size) = some lo.length by rw [hlol]; exact infD32); have lo_LR := Lib.hid (show (Tryd.prog.info? 23).map (·.size) = some lo.length by rw [hlol]; exact infR32)
  have lz_I := Lib.hid (inf_size infD32 lz hlzl); have lz_IR := Lib.hid (inf_size infR32 lz hlzl); have lz_S := Lib.hid (st_size lz hlzl); have lz_O := Lib.hid (all_oneCell_toArray hlzo)
  have lz_L := Lib.hid (show (Tryd.prog.info? 24).map (·.size) = some lz.length by rw [hlzl]; exact infD32); have lz_LR := Lib.hid (show (Tryd.prog.info? 23).map (·.size) = some lz.length by rw [hlzl]; exact infR32)
  have lt_I := Lib.hid (inf_size infD32 lt hltl); have lt_IR := Lib.hid (inf_size infR32 lt hltl); have lt_S := Lib.hid (st_size lt hltl); have lt_O := Lib.hid (all_oneCell_toArray hlto)
  have lt_L := Lib.hid (show (Tryd.prog.info? 24).map (·.size) = some lt.length by rw [hltl]; exact infD32); have lt_LR := Lib.hid (show (Tryd.prog.info? 23).map (·.size) = some lt.length by rw [hltl]; exact infR32)
  have lc_I := Lib.hid (inf_size infD32 lc hlcl); have lc_IR := Lib.hid (inf_size infR32 lc hlcl); have lc_S := Lib.hid (st_size lc hlcl); have lc_O := Lib.hid (all_oneCell_toArray hlco)
  have lc_L := Lib.hid (show (Tryd.prog.info? 24).map (·.size) = some lc.length by rw [hlcl]; exact infD32); have lc_LR := Lib.hid (show (Tryd.prog.info? 23).map (·.size) = some lc.length by rw [hlcl]; exact infR32)
  have ld_I := Lib.hid (inf_size infD32 ld hldl); have ld_IR := Lib.hid (inf_size infR32 ld hldl); have ld_S := Lib.hid (st_size ld hldl); have ld_O := Lib.hid (all_oneCell_toArray hldo)
  have ld_L := Lib.hid (show (Tryd.prog.info? 24).map (·.size) = some ld.length by rw [hldl]; exact infD32); have ld_LR := Lib.hid (show (Tryd.prog.info? 23).map (·.size) = some ld.length by rw [hldl]; exact infR32)
  have HLO := Lib.hid hLO; have HLZ := Lib.hid hLZ; have HLT := Lib.hid hLT; have HLC := Lib.hid hLC; have HLD := Lib.hid hLD; have HOM := Lib.hid hom; have HX3 := Lib.hid hx3
  have HPA := Lib.hid hpa; have HC0 := Lib.hid hc0; have HBD := Lib.hid hb1
  rw [hLO] at hext1
  rw [hLT] at hext2 hextR
  clear hS1 hS2 hLO hlom hlol hloo hLZ hlzl hlzo hLT hltm hltl hlto hLC hlcl hlco hLD hldl hldo hom hx3 hpa hc0 hb1
  go_wp2_with fail
  refine hcall.mono ?_
  rintro e w4 ⟨v4, rfl, hO4, hP4⟩
  obtain ⟨a4, c4, rfl⟩ := hO4.shape
  have hD4 := hO4.digs HPA.out
  obtain ⟨mv4, hT4⟩ := hP4.tr
  have hb4 := hP4.base hT3
  have HE4 : Hid (Env w w.heap.size (.slice al LS.length cl) LS (.slice a4 pS.length c4) pS [] w4) := Lib.hid ⟨hT4.kt, HD2.out.below (HBB.out.trans hb4) (Nat.le_refl _), hD4, HB3.out.trans (hb4.mono HB2.out.size), by simp, Nat.le_trans HB3.out.size hb4.size⟩
  clear hcall hO4 hP4 hT3 hT4 hD4 hb4 HPA HB3 HB2 HK2 HD3 HD2 HBB
  have hcap := (HE4.out.dl.cut hml).1
  have hD4c := (HE4.out.dl.cut hml).2
  have hcapi : ¬ (cl : Int) < (m : Int) := by omega
  have hm0 : ¬ (m : Int) < 0 := by omega
  have HC4 := Lib.hid hD4c
  clear hcut hD4c
  go_wp2_with fail
  refine (hroot1 _ HC4.out).mono ?_
  rintro e w5 ⟨rfl, hb5⟩
  rw [HLO.out]
  have HE5 := Lib.hid (HE4.out.below hb5)
  clear hb5 HE4 HC4 hroot1
  have HV := Lib.hid (one_var w5 23 lo)
  go_upto_region 10 with ((with_reducible refine at_st 23 (.tmp 13) (.tmp 56) ?_); refine wpList_store_row rfl 23 (.tmp 13) (.tmp 56) rfl w5.heap.size lo.toArray rfl rfl 23 _ HV.out.1 lo_IR.out lo_S.out lo_O.out ?_)
  have ⟨hA0, hAX, hBX, hZX⟩ := HV.out
  clear HV hA0 hZX
  change Code.wp _ _ _ _ ((w5.alloc (Z32 23)).setRow w5.heap.size lo.toArray)
  generalize (w5.alloc (Z32 23)).setRow w5.heap.size lo.toArray = w6 at *
  have HE6 := Lib.hid ((HE5.out.below hBX).add hAX)
  generalize w5.heap.size = b13 at *
  clear hAX hBX
  have HA13 := Lib.hid (HE6.out.row b13 23 lo (by simp))
  clear HE5
  go_wp2_with ((with_reducible refine at_ld 23 (.tmp 13) ?_); refine wpList_load_row rfl 23 (.tmp 13) rfl b13 rfl 23 lo.toArray (0, 0) _ HA13.out huR.out rfl lo_IR.out ?_)
  refine (hext1 _ _ HE6.out.dp HE6.out.kt).mono ?_
  rintro e w7 ⟨rfl, hb7⟩
  rw [HLZ.out]
  have HE7 := Lib.hid (HE6.out.below hb7)
  clear hb7 HE6 HA13 hext1
  have HV := Lib.hid (two_vars w7 24 lo lz)
  go_upto_region 11 with (first | ((with_reducible refine at_st 24 (.tmp 14) (.tmp 64) ?_); refine wpList_store_row rfl 24 (.tmp 14) (.tmp 64) rfl w7.heap.size lo.toArray rfl rfl 24 _ HV.out.1 lo_I.out lo_S.out lo_O.out ?_) | ((with_reducible refine at_st 24 (.tmp 15) (.tmp 65) ?_); refine wpList_store_row rfl 24 (.tmp 15) (.tmp 65) rfl (w7.heap.size + 1) lz.toArray rfl rfl 24 _ HV.out.2.1 lz_I.out lz_S.out lz_O.out ?_))
  have ⟨hA0, hA1, hAX, hAY, hBX, hZX⟩ := HV.out
  clear HV hA0 hA1 hZX
  change Code.wp _ _ _ _ ((((w7.alloc (Z32 24)).alloc (Z32 24)).setRow w7.heap.size lo.toArray).setRow (w7.heap.size + 1) lz.toArray)
  generalize (((w7.alloc (Z32 24)).alloc (Z32 24)).setRow w7.heap.size lo.toArray).setRow (w7.heap.size + 1) lz.toArray = w8 at *
  have HE8 := Lib.hid (((HE7.out.below hBX).add hAX).add hAY)
  generalize w7.heap.size = b14 at *
  clear hAX hAY hBX
  have HA13 := Lib.hid (HE8.out.row b13 23 lo (by simp))
  have HV := Lib.hid (one_var w8 23 lo)
  have hs8 : b14 + 1 < w8.heap.size := (HE8.out.row (b14 + 1) 24 lz (by simp)).lt
  have HA13' := Lib.hid (HA13.out.below (below_alloc w8 (Z32 23)) HA13.out.lt)
  clear HE7
  go_upto_region 12 with (first | ((with_reducible refine at_ld 23 (.tmp 13) ?_); refine wpList_load_row rfl 23 (.tmp 13) rfl b13 rfl 23 lo.toArray (0, 0) _ HA13.out huR.out rfl lo_IR.out ?_) | ((with_reducible refine at_st 23 (.tmp 17) (.tmp 67) ?_); refine wpList_store_row rfl 23 (.tmp 17) (.tmp 67) rfl w8.heap.size lo.toArray rfl rfl 23 _ HV.out.1 lo_IR.out lo_S.out lo_O.out ?_))
  have ⟨hA0, hA17, hB9, hZX⟩ := HV.out
  clear hA0 hZX HV HA13 HA13'
  change Code.wp _ _ _ _ ((w8.alloc (Z32 23)).setRow w8.heap.size lo.toArray)
  generalize (w8.alloc (Z32 23)).setRow w8.heap.size lo.toArray = w9 at *
  have c17 := (hA17.cell 3).trans HX3.out
  have f17 := hA17.frozen 3
  have hx : bits .xor .u8 ((old.getD 3 0).toNat : Int) (1 : Int) = ((old.getD 3 0 ^^^ 1).toNat : Int) := b_xor (old.getD 3 0) 1
  have hA17' := hA17.set 3 (V8 (old.getD 3 0 ^^^ 1))
  rw [← HOM.out] at hA17'
  have hB9' : Below w8.heap.size w8 (w9.setCell ⟨w8.heap.size, 3, none⟩ (V8 (old.getD 3 0 ^^^ 1))) := hB9.setCell (Nat.le_refl _) _
  have HE9 := Lib.hid ((HE8.out.below hB9').add hA17')
  unfold V8 at c17
  generalize w8.heap.size = b17 at *
  clear hB9 hA17 hA17' hB9' HOM HX3 HE8
  have HE9' : Hid (Env w w.heap.size (.slice al LS.length cl) LS (.slice a4 pS.length c4) pS [(b17, 23, lt), (b14 + 1, 24, lz), (b14, 24, lo), (b13, 23, lo)] (w9.setCell ⟨b17, 3, none⟩ (.int .u8 ((old.getD 3 0 ^^^ 1).toNat : Int)))) := HE9
  clear HE9
  generalize old.getD 3 0 ^^^ 1 = xx at *
  generalize old.getD 3 0 = xo at *
  go_upto_region 13 with (fail)
  generalize w9.setCell ⟨b17, 3, none⟩ (.int .u8 (xx.toNat : Int)) = w10 at *
  have HA17 := Lib.hid (HE9'.out.row b17 23 lt (by simp))
  go_wp2_with ((with_reducible refine at_ld 23 (.tmp 17) ?_); refine wpList_load_row rfl 23 (.tmp 17) rfl b17 rfl 23 lt.toArray (0, 0) _ HA17.out huR.out rfl lt_IR.out ?_)
  refine (hext2 _ _ HE9'.out.dp HE9'.out.kt).mono ?_
  rintro e w11 ⟨rfl, hb11⟩
  rw [HLC.out, HLD.out]
  have HE11 := Lib.hid (HE9'.out.below hb11)
  clear hb11 HE9' HA17 hext2 hx c17 f17
  have HV := Lib.hid (two_vars w11 24 lc ld)
  go_upto_region 14 with (first | ((with_reducible refine at_st 24 (.tmp 18) (.tmp 79) ?_); refine wpList_store_row rfl 24 (.tmp 18) (.tmp 79) rfl w11.heap.size lc.toArray rfl rfl 24 _ HV.out.1 lc_I.out lc_S.out lc_O.out ?_) | ((with_reducible refine at_st 24 (.tmp 19) (.tmp 80) ?_); refine wpList_store_row rfl 24 (.tmp 19) (.tmp 80) rfl (w11.heap.size + 1) ld.toArray rfl rfl 24 _ HV.out.2.1 ld_I.out ld_S.out ld_O.out ?_))
  have ⟨hA0, hA1, hAX, hAY, hBX, hZX⟩ := HV.out
  clear HV hA0 hA1 hZX
  change Code.wp _ _ _ _ ((((w11.alloc (Z32 24)).alloc (Z32 24)).setRow w11.heap.size lc.toArray).setRow (w11.heap.size + 1) ld.toArray)
  generalize (((w11.alloc (Z32 24)).alloc (Z32 24)).setRow w11.heap.size lc.toArray).setRow (w11.heap.size + 1) ld.toArray = w12 at *
  have HE12 := Lib.hid (((HE11.out.below hBX).add hAX).add hAY)
  generalize w11.heap.size = b18 at *
  clear hAX hAY hBX
  have hpd : decide ((21 : Int) < (pS.length : Int)) = false := decide_eq_false (by omega)
  have hpn : ¬ (21 : Int) < (pS.length : Int) := by omega
  have A13 := HE12.out.row b13 23 lo (by simp)
  have A14 := HE12.out.row b14 24 lo (by simp)
  have A15 := HE12.out.row (b14 + 1) 24 lz (by simp)
  have A17 := HE12.out.row b17 23 lt (by simp)
  have A18 := HE12.out.row b18 24 lc (by simp)
  clear HE11
  refine wp_region_listed 19 [] (Below w12.heap.size w12) (by decide) (Stable.below w12) (Below.refl _ _) ?_
  simp only [List.range, List.range.loop, opsOf, List.getElem?_cons_succ, List.getElem?_cons_zero, List.drop_succ_cons, List.drop_zero]
  refine wpL_val ?v2 rfl (by rfl) (fun wq hq => ?y2) ?z2
  case y2 => go_simp; with_reducible rfl
  try simp only [Act.put, List.setIfInBounds_toArray, List.set_cons_zero, List.set_cons_succ]
  refine wpL_val ?v3 rfl (by rfl) (fun wq hq => ?y3) ?z3
  case y3 => go_simp; with_reducible rfl
  try simp only [Act.put, List.setIfInBounds_toArray, List.set_cons_zero, List.set_cons_succ]
  refine wpL_val ?v4 rfl (by rfl) (fun wq hq => ?y4) ?z4
  case y4 => go_simp; with_reducible rfl
  try simp only [Act.put, List.setIfInBounds_toArray, List.set_cons_zero, List.set_cons_succ]
  refine wpL_val ?v5 rfl (by rfl) (fun wq hq => ?y5) ?z5
  case y5 => go_simp; with_reducible rfl
  try simp only [Act.put, List.setIfInBounds_toArray, List.set_cons_zero, List.set_cons_succ]
  refine wpL_val ?v6 rfl (by rfl) (fun wq hq => ?y6) ?z6
  case y6 => go_simp; with_reducible rfl
  try simp only [Act.put, List.setIfInBounds_toArray, List.set_cons_zero, List.set_cons_succ]
  refine wpL_val ?v7 rfl (by rfl) (fun wq hq => ?y7) ?z7
  case y7 => go_simp; with_reducible rfl
  try simp only [Act.put, List.setIfInBounds_toArray, List.set_cons_zero, List.set_cons_succ]
  refine wpL_val ?v8 rfl (by rfl) (fun wq hq => ?y8) ?z8
  case y8 => go_simp; with_reducible rfl
  try simp only [Act.put, List.setIfInBounds_toArray, List.set_cons_zero, List.set_cons_succ]
  refine wpL_val ?v9 rfl (by rfl) (fun wq hq => ?y9) ?z9
  case y9 => go_simp; with_reducible rfl
  try simp only [Act.put, List.setIfInBounds_toArray, List.set_cons_zero, List.set_cons_succ]
  refine wpL_val ?v10 rfl (by rfl) (fun wq hq => ?y10) ?z10
  case y10 => go_simp; with_reducible rfl
  try simp only [Act.put, List.setIfInBounds_toArray, List.set_cons_zero, List.set_cons_succ]
  refine wpL_val ?v11 rfl (by rfl) (fun wq hq => ?y11) ?z11
  case y11 => go_simp; with_reducible rfl
  try simp only [Act.put, List.setIfInBounds_toArray, List.set_cons_zero, List.set_cons_succ]
  refine wpL_val ?v12 rfl (by rfl) (fun wq hq => ?y12) ?z12
  case y12 => go_simp; with_reducible rfl
  try simp only [Act.put, List.setIfInBounds_toArray, List.set_cons_zero, List.set_cons_succ]
  refine wpL_val ?v13 rfl (by rfl) (fun wq hq => ?y13) ?z13
  case y13 => go_simp; with_reducible rfl
  try simp only [Act.put, List.setIfInBounds_toArray, List.set_cons_zero, List.set_cons_succ]
  refine wpL_val ?v14 rfl (by rfl) (fun wq hq => ?y14) ?z14
  case y14 => go_simp; with_reducible rfl
  try simp only [Act.put, List.setIfInBounds_toArray, List.set_cons_zero, List.set_cons_succ]
  refine wpL_val ?v15 rfl (by rfl) (fun wq hq => ?y15) ?z15
  case y15 => go_simp; with_reducible rfl
  try simp only [Act.put, List.setIfInBounds_toArray, List.set_cons_zero, List.set_cons_succ]
  refine wpL_val ?v16 rfl (by rfl) (fun wq hq => ?y16) ?z16
  case y16 => go_simp; with_reducible rfl
  try simp only [Act.put, List.setIfInBounds_toArray, List.set_cons_zero, List.set_cons_succ]
  refine wpL_val ?v17 rfl (by rfl) (fun wq hq => ?y17) ?z17
  case y17 => go_simp; with_reducible rfl
  try simp only [Act.put, List.setIfInBounds_toArray, List.set_cons_zero, List.set_cons_succ]
  refine wpL_val (.agg lo.toArray) rfl (by rfl) (fun wq hq => quiet_ld 24 _ rfl _ _ rfl lo _ (range_below A14.range hq A14.lt) hu.out rfl lo_L.out) ?_
  try simp only [Act.put, List.setIfInBounds_toArray, List.set_cons_zero, List.set_cons_succ]
  refine wpL_val (.agg lo.toArray) rfl (by rfl) (fun wq hq => quiet_ld 23 _ rfl _ _ rfl lo _ (range_below A13.range hq A13.lt) huR.out rfl lo_LR.out) ?_
  try simp only [Act.put, List.setIfInBounds_toArray, List.set_cons_zero, List.set_cons_succ]
  refine wpL_val (.bool (!true)) rfl (by rfl) (fun wq hq => quiet_neq 23 _ _ _ rfl _ _ rfl rfl guardR true ((eqlR old old hol hol _ _ HLO.out HLO.out wq).trans (by rw [decide_eq_true rfl]))) ?_
  try simp only [Act.put, List.setIfInBounds_toArray, List.set_cons_zero, List.set_cons_succ]
  refine wpL_nil ?_
  intro w13 hw13
  have HE13 := Lib.hid (HE12.out.below hw13)
  clear A13 A14 A15 A17 A18 hw13 HE12
  go_upto_region 16 with (fail)
  by_cases hm00 : m = 0
  · obtain ⟨rfl, rfl⟩ := HC0.out hm00
    have hmi0 : (m : Int) = 0 := by omega
    clear hm00
    have A15 := HE13.out.row (b14 + 1) 24 lz (by simp)
    have A17 := HE13.out.row b17 23 lt (by simp)
    have A18 := HE13.out.row b18 24 lc (by simp)
    go_upto_region 17 with (fail)
    refine wp_region_listed 8 [] (Below w13.heap.size w13) (by decide) (Stable.below w13) (Below.refl _ _) ?_
    simp only [List.range, List.range.loop, opsOf, List.getElem?_cons_succ, List.getElem?_cons_zero, List.drop_succ_cons, List.drop_zero]
    refine wpL_val (.agg lc.toArray) rfl (by rfl) (fun wq hq => quiet_ld 24 _ rfl _ _ rfl lc _ (range_below A18.range hq A18.lt) hu.out rfl lc_L.out) ?_
    try simp only [Act.put, List.setIfInBounds_toArray, List.set_cons_zero, List.set_cons_succ]
    refine wpL_val (.agg lt.toArray) rfl (by rfl) (fun wq hq => quiet_ld 23 _ rfl _ _ rfl lt _ (range_below A17.range hq A17.lt) huR.out rfl lt_LR.out) ?_
    try simp only [Act.put, List.setIfInBounds_toArray, List.set_cons_zero, List.set_cons_succ]
    refine wpL_val (.bool true) rfl (by rfl) (fun wq hq => quiet_eql 23 _ _ _ rfl _ _ rfl rfl guardR true ((eqlR c c hcl hcl _ _ HLC.out HLT.out wq).trans (by rw [decide_eq_true rfl]))) ?_
    try simp only [Act.put, List.setIfInBounds_toArray, List.set_cons_zero, List.set_cons_succ]
    refine wpL_val ?v26 rfl (by rfl) (fun wq hq => ?y26) ?z26
    case y26 => go_simp; with_reducible rfl
    try simp only [Act.put, List.setIfInBounds_toArray, List.set_cons_zero, List.set_cons_succ]
    refine wpL_val (.agg lz.toArray) rfl (by rfl) (fun wq hq => quiet_ld 24 _ rfl _ _ rfl lz _ (range_below A15.range hq A15.lt) hu.out rfl lz_L.out) ?_
    try simp only [Act.put, List.setIfInBounds_toArray, List.set_cons_zero, List.set_cons_succ]
    refine wpL_val (.agg (List.replicate 32 (V8 0)).toArray) rfl (by rfl) (fun wq hq => quiet_build0 24 rfl _ built24) ?_
    try simp only [Act.put, List.setIfInBounds_toArray, List.set_cons_zero, List.set_cons_succ]
    refine wpL_val (.bool true) rfl (by rfl) (fun wq hq => quiet_eql 24 _ _ _ rfl _ _ rfl rfl guardD true ((eqlD zd zd zd_len zd_len _ _ HLZ.out dv_zd wq).trans (by rw [decide_eq_true rfl]))) ?_
    try simp only [Act.put, List.setIfInBounds_toArray, List.set_cons_zero, List.set_cons_succ]
    refine wpL_val ?v30 rfl (by rfl) (fun wq hq => ?y30) ?z30
    case y30 => go_simp; with_reducible rfl
    try simp only [Act.put, List.setIfInBounds_toArray, List.set_cons_zero, List.set_cons_succ]
    refine wpL_nil ?_
    intro w14 hw14
    go_wp2_with fail
    go_ret
    exact ⟨rfl, (HE13.out.below hw14).bw⟩
  · have hmi0 : ¬ (m : Int) = 0 := by omega
    have hbd := HBD.out hm00
    have HLC2 := HLC.out; have HLD2 := HLD.out
    rw [HLC2, HLD2] at hextR
    clear hm00 HLC2 HLD2
    have A17 := HE13.out.row b17 23 lt (by simp)
    go_upto_region 18 with (fail)
    go_cut [21] from 24 (fun v21 w' => ∃ b, v21 = .pointer (some ⟨b, 0, none⟩) ∧ Arr w' b 23 lc ∧ Below w13.heap.size w13 w')
    case first =>
      refine wp_region_tree (Below w13.heap.size w13) (Stable.below w13) (Below.refl _ _).drew (by kernel_rfl) ?_
      refine wpB_list [] [0, 1, 2, 3, 4] 11 rfl (by kernel_rfl) ?_
      simp only [opsOf, List.getElem?_cons_succ, List.getElem?_cons_zero, List.drop_succ_cons, List.drop_zero]
      refine wpL_val (.agg lt.toArray) rfl (by rfl) (fun wq hq => quiet_ld 23 _ rfl _ _ rfl lt _ (range_below A17.range hq A17.lt) huR.out rfl lt_LR.out) ?_
      try simp only [Act.put, List.setIfInBounds_toArray, List.set_cons_zero, List.set_cons_succ]
      refine wpL_val ?v35 rfl (by rfl) (fun wq hq => ?y35) ?z35
      case y35 => go_simp; with_reducible rfl
      try simp only [Act.put, List.setIfInBounds_toArray, List.set_cons_zero, List.set_cons_succ]
      refine wpL_val ?v36 rfl (by rfl) (fun wq hq => ?y36) ?z36
      case y36 => go_simp; with_reducible rfl
      try simp only [Act.put, List.setIfInBounds_toArray, List.set_cons_zero, List.set_cons_succ]
      refine wpL_val ?v37 rfl (by rfl) (fun wq hq => ?y37) ?z37
      case y37 => go_simp; with_reducible rfl
      try simp only [Act.put, List.setIfInBounds_toArray, List.set_cons_zero, List.set_cons_succ]
      refine wpL_val ?v38 rfl (by rfl) (fun wq hq => ?y38) ?z38
      case y38 => go_simp; with_reducible rfl
      try simp only [Act.put, List.setIfInBounds_toArray, List.set_cons_zero, List.set_cons_succ]
      refine wpL_nil ?_
      refine wpB_three 5 11 12 10 (by kernel_rfl) ?_ ?_ ?_
      · simp only [opsOf, List.getElem?_cons_succ, List.getElem?_cons_zero, List.drop_succ_cons, List.drop_zero]
        refine wpL_made (fun v => ∃ a c, v = .slice a pS.length c) (fun v w => Digs w v pS) rfl (by rfl) (Stable.below w13) (fun _ h => h) (stabDigs pS) (fun wq hq => ?y41) ?_
        case y41 => unfold genAt; go_simp; refine (hback _ _ (HE13.out.dp.below hq (Nat.le_refl _))).mono ?_; rintro e wz ⟨⟨vz, rfl, hV⟩, hb⟩; exact ⟨vz, rfl, hV.shape, hV, hb⟩
        intro v5 hv5; obtain ⟨a5, c5, rfl⟩ := hv5
        try simp only [Act.put, List.setIfInBounds_toArray, List.set_cons_zero, List.set_cons_succ]
        refine wpL_nil ?_
        refine wpB_three 6 11 12 9 (by kernel_rfl) ?_ ?_ ?_
        · simp only [opsOf, List.getElem?_cons_succ, List.getElem?_cons_zero, List.drop_succ_cons, List.drop_zero]
          refine wpL_one ?v44 rfl (by rfl) (Stable.made (Stable.below w13) (stabDigs pS _)) (fun _ h => h.1) (fun wq hq => ?y44) ?z44
          case y44 => go_simp; exact hextR _ _ hq.2
          try simp only [Act.put, List.setIfInBounds_toArray, List.set_cons_zero, List.set_cons_succ]
          refine wpL_nil ?_
          refine wpB_list [] [7, 8, 9, 10] 5 rfl (by kernel_rfl) ?_
          simp only [opsOf, List.getElem?_cons_succ, List.getElem?_cons_zero, List.drop_succ_cons, List.drop_zero]
          refine wpL_val ?v47 rfl (by rfl) (fun wq hq => ?y47) ?z47
          case y47 => go_simp; with_reducible rfl
          try simp only [Act.put, List.setIfInBounds_toArray, List.set_cons_zero, List.set_cons_succ]
          refine wpL_val ?v48 rfl (by rfl) (fun wq hq => ?y48) ?z48
          case y48 => go_simp; with_reducible rfl
          try simp only [Act.put, List.setIfInBounds_toArray, List.set_cons_zero, List.set_cons_succ]
          refine wpL_val ?v49 rfl (by rfl) (fun wq hq => ?y49) ?z49
          case y49 => go_simp; with_reducible rfl
          try simp only [Act.put, List.setIfInBounds_toArray, List.set_cons_zero, List.set_cons_succ]
          refine wpL_val ?v50 rfl (by rfl) (fun wq hq => ?y50) ?z50
          case y50 => go_simp; with_reducible rfl
          try simp only [Act.put, List.setIfInBounds_toArray, List.set_cons_zero, List.set_cons_succ]
          refine wpL_nil ?_
          refine wpB_two 11 12 4 (by kernel_rfl) ?_ ?_
          · simp only [opsOf, List.getElem?_cons_succ, List.getElem?_cons_zero, List.drop_succ_cons, List.drop_zero]
            refine wpL_new (fun g => .pointer (some ⟨g, 0, none⟩)) (.cells (List.replicate 32 (V8 0)).toArray 23) rfl (by rfl) (Stable.made (Stable.below w13) (stabDigs pS _)) (fun _ h => h.1) (fun wq hq => ?y53) (fun g1 hg1 => ?_)
            case y53 => exact run_al _ rfl 32 _ zero23
            try simp only [Act.put, List.setIfInBounds_toArray, List.set_cons_zero, List.set_cons_succ]
            have G11 : w13.heap.size ≤ g1 := by obtain ⟨wq, hq, rfl⟩ := hg1; exact hq.1.size
            refine wpL_nil ?_
            refine wpB_list [12] [12] 3 rfl (by kernel_rfl) ?_
            simp only [opsOf, List.getElem?_cons_succ, List.getElem?_cons_zero, List.drop_succ_cons, List.drop_zero]
            refine wpL_new (fun g => .pointer (some ⟨g, 0, none⟩)) (.cells (List.replicate 32 (V8 0)).toArray 23) rfl (by rfl) (Stable.fresh (Stable.made (Stable.below w13) (stabDigs pS _)) _ _) (fun _ h => h.1.1) (fun wq hq => ?y56) (fun g2 hg2 => ?_)
            case y56 => exact run_al _ rfl 32 _ zero23
            try simp only [Act.put, List.setIfInBounds_toArray, List.set_cons_zero, List.set_cons_succ]
            have G12 : w13.heap.size ≤ g2 := by obtain ⟨wq, hq, rfl⟩ := hg2; exact hq.1.1.size
            have GN : g1 < g2 := by obtain ⟨wq, hq, rfl⟩ := hg2; exact hq.2.1
            refine wpL_nil ?_
            refine wpB_list [13, 14] [13, 14, 15] 0 rfl (by kernel_rfl) ?_
            simp only [opsOf, List.getElem?_cons_succ, List.getElem?_cons_zero, List.drop_succ_cons, List.drop_zero]
            refine wpL_store rfl (by rfl) 23 (.tmp 21) (.tmp 120) rfl g1 lc.toArray rfl rfl 23 (List.replicate 32 (V8 0)).toArray (fun wq hq => hq.1.2.2) lc_IR.out lc_S.out lc_O.out (Stable.below w13) (fun wq hq => below_setRow hq.1.1.1 G11 _) ?_
            try simp only [Act.put, List.setIfInBounds_toArray, List.set_cons_zero, List.set_cons_succ]
            refine wpL_store rfl (by rfl) 23 (.tmp 22) (.tmp 121) rfl g2 ld.toArray rfl rfl 23 (List.replicate 32 (V8 0)).toArray (fun wq hq => other_row hq (fun w hq => ⟨hq.2.1, hq.2.2⟩) (by omega)) ld_IR.out ld_S.out ld_O.out (Stable.below w13) (fun wq hq => below_setRow (row_below hq (fun w hq => hq.1.1.1) G11) G12 _) ?_
            try simp only [Act.put, List.setIfInBounds_toArray, List.set_cons_zero, List.set_cons_succ]
            refine wpL_val ?v59 rfl (by rfl) (fun wq hq => ?y59) ?z59
            case y59 => go_simp; with_reducible rfl
            try simp only [Act.put, List.setIfInBounds_toArray, List.set_cons_zero, List.set_cons_succ]
            refine wpL_nil ?_
            refine wpB_end (by kernel_rfl) ?_
            intro wt hwt
            have hfin := rows_fin hwt (fun w hq => hq.1.1.1) (fun w hq => ⟨hq.1.2.1, hq.1.2.2⟩) (by omega) G11 G12
            go_wp2_with fail
            go_meet
            case rel => exact ⟨g1, rfl, hfin.2, hfin.1⟩
          · simp only [opsOf, List.getElem?_cons_succ, List.getElem?_cons_zero, List.drop_succ_cons, List.drop_zero]
            refine wpL_new (fun g => .pointer (some ⟨g, 0, none⟩)) (.cells (List.replicate 32 (V8 0)).toArray 23) rfl (by rfl) (Stable.made (Stable.below w13) (stabDigs pS _)) (fun _ h => h.1) (fun wq hq => ?y62) (fun g1 hg1 => ?_)
            case y62 => exact run_al _ rfl 32 _ zero23
            try simp only [Act.put, List.setIfInBounds_toArray, List.set_cons_zero, List.set_cons_succ]
            have G12 : w13.heap.size ≤ g1 := by obtain ⟨wq, hq, rfl⟩ := hg1; exact hq.1.size
            refine wpL_nil ?_
            refine wpB_list [11] [11] 3 rfl (by kernel_rfl) ?_
            simp only [opsOf, List.getElem?_cons_succ, List.getElem?_cons_zero, List.drop_succ_cons, List.drop_zero]
            refine wpL_new (fun g => .pointer (some ⟨g, 0, none⟩)) (.cells (List.replicate 32 (V8 0)).toArray 23) rfl (by rfl) (Stable.fresh (Stable.made (Stable.below w13) (stabDigs pS _)) _ _) (fun _ h => h.1.1) (fun wq hq => ?y65) (fun g2 hg2 => ?_)
            case y65 => exact run_al _ rfl 32 _ zero23
            try simp only [Act.put, List.setIfInBounds_toArray, List.set_cons_zero, List.set_cons_succ]
            have G11 : w13.heap.size ≤ g2 := by obtain ⟨wq, hq, rfl⟩ := hg2; exact hq.1.1.size
            have GN : g1 < g2 := by obtain ⟨wq, hq, rfl⟩ := hg2; exact hq.2.1
            refine wpL_nil ?_
            refine wpB_list [13, 14] [13, 14, 15] 0 rfl (by kernel_rfl) ?_
            simp only [opsOf, List.getElem?_cons_succ, List.getElem?_cons_zero, List.drop_succ_cons, List.drop_zero]
            refine wpL_store rfl (by rfl) 23 (.tmp 21) (.tmp 120) rfl g2 lc.toArray rfl rfl 23 (List.replicate 32 (V8 0)).toArray (fun wq hq => hq.2.2) lc_IR.out lc_S.out lc_O.out (Stable.below w13) (fun wq hq => below_setRow hq.1.1.1 G11 _) ?_
            try simp only [Act.put, List.setIfInBounds_toArray, List.set_cons_zero, List.set_cons_succ]
            refine wpL_store rfl (by rfl) 23 (.tmp 22) (.tmp 121) rfl g1 ld.toArray rfl rfl 23 (List.replicate 32 (V8 0)).toArray (fun wq hq => other_row hq (fun w hq => ⟨hq.1.2.1, hq.1.2.2⟩) (by omega)) ld_IR.out ld_S.out ld_O.out (Stable.below w13) (fun wq hq => below_setRow (row_below hq (fun w hq => hq.1.1.1) G11) G12 _) ?_
            try simp only [Act.put, List.setIfInBounds_toArray, List.set_cons_zero, List.set_cons_succ]
            refine wpL_val ?v68 rfl (by rfl) (fun wq hq => ?y68) ?z68
            case y68 => go_simp; with_reducible rfl
            try simp only [Act.put, List.setIfInBounds_toArray, List.set_cons_zero, List.set_cons_succ]
            refine wpL_nil ?_
            refine wpB_end (by kernel_rfl) ?_
            intro wt hwt
            have hfin := rows_fin hwt (fun w hq => hq.1.1.1) (fun w hq => ⟨hq.2.1, hq.2.2⟩) (by omega) G11 G12
            go_wp2_with fail
            go_meet
            case rel => exact ⟨g2, rfl, hfin.2, hfin.1⟩
        · simp only [opsOf, List.getElem?_cons_succ, List.getElem?_cons_zero, List.drop_succ_cons, List.drop_zero]
          refine wpL_new (fun g => .pointer (some ⟨g, 0, none⟩)) (.cells (List.replicate 32 (V8 0)).toArray 23) rfl (by rfl) (Stable.made (Stable.below w13) (stabDigs pS _)) (fun _ h => h.1) (fun wq hq => ?y71) (fun g1 hg1 => ?_)
          case y71 => exact run_al _ rfl 32 _ zero23
          try simp only [Act.put, List.setIfInBounds_toArray, List.set_cons_zero, List.set_cons_succ]
          have G11 : w13.heap.size ≤ g1 := by obtain ⟨wq, hq, rfl⟩ := hg1; exact hq.1.size
          refine wpL_nil ?_
          refine wpB_two 6 12 8 (by kernel_rfl) ?_ ?_
          · simp only [opsOf, List.getElem?_cons_succ, List.getElem?_cons_zero, List.drop_succ_cons, List.drop_zero]
            refine wpL_one ?v74 rfl (by rfl) (Stable.fresh (Stable.made (Stable.below w13) (stabDigs pS _)) _ _) (fun _ h => h.1.1) (fun wq hq => ?y74) ?z74
            case y74 => go_simp; exact hextR _ _ hq.1.2
            try simp only [Act.put, List.setIfInBounds_toArray, List.set_cons_zero, List.set_cons_succ]
            refine wpL_nil ?_
            refine wpB_list [] [7, 8, 9, 10] 4 rfl (by kernel_rfl) ?_
            simp only [opsOf, List.getElem?_cons_succ, List.getElem?_cons_zero, List.drop_succ_cons, List.drop_zero]
            refine wpL_val ?v77 rfl (by rfl) (fun wq hq => ?y77) ?z77
            case y77 => go_simp; with_reducible rfl
            try simp only [Act.put, List.setIfInBounds_toArray, List.set_cons_zero, List.set_cons_succ]
            refine wpL_val ?v78 rfl (by rfl) (fun wq hq => ?y78) ?z78
            case y78 => go_simp; with_reducible rfl
            try simp only [Act.put, List.setIfInBounds_toArray, List.set_cons_zero, List.set_cons_succ]
            refine wpL_val ?v79 rfl (by rfl) (fun wq hq => ?y79) ?z79
            case y79 => go_simp; with_reducible rfl
            try simp only [Act.put, List.setIfInBounds_toArray, List.set_cons_zero, List.set_cons_succ]
            refine wpL_val ?v80 rfl (by rfl) (fun wq hq => ?y80) ?z80
            case y80 => go_simp; with_reducible rfl
            try simp only [Act.put, List.setIfInBounds_toArray, List.set_cons_zero, List.set_cons_succ]
            refine wpL_nil ?_
            refine wpB_list [12] [12] 3 rfl (by kernel_rfl) ?_
            simp only [opsOf, List.getElem?_cons_succ, List.getElem?_cons_zero, List.drop_succ_cons, List.drop_zero]
            refine wpL_new (fun g => .pointer (some ⟨g, 0, none⟩)) (.cells (List.replicate 32 (V8 0)).toArray 23) rfl (by rfl) (Stable.fresh (Stable.made (Stable.below w13) (stabDigs pS _)) _ _) (fun _ h => h.1.1) (fun wq hq => ?y83) (fun g2 hg2 => ?_)
            case y83 => exact run_al _ rfl 32 _ zero23
            try simp only [Act.put, List.setIfInBounds_toArray, List.set_cons_zero, List.set_cons_succ]
            have G12 : w13.heap.size ≤ g2 := by obtain ⟨wq, hq, rfl⟩ := hg2; exact hq.1.1.size
            have GN : g1 < g2 := by obtain ⟨wq, hq, rfl⟩ := hg2; exact hq.2.1
            refine wpL_nil ?_
            refine wpB_list [13, 14] [13, 14, 15] 0 rfl (by kernel_rfl) ?_
            simp only [opsOf, List.getElem?_cons_succ, List.getElem?_cons_zero, List.drop_succ_cons, List.drop_zero]
            refine wpL_store rfl (by rfl) 23 (.tmp 21) (.tmp 120) rfl g1 lc.toArray rfl rfl 23 (List.replicate 32 (V8 0)).toArray (fun wq hq => hq.1.2.2) lc_IR.out lc_S.out lc_O.out (Stable.below w13) (fun wq hq => below_setRow hq.1.1.1 G11 _) ?_
            try simp only [Act.put, List.setIfInBounds_toArray, List.set_cons_zero, List.set_cons_succ]
            refine wpL_store rfl (by rfl) 23 (.tmp 22) (.tmp 121) rfl g2 ld.toArray rfl rfl 23 (List.replicate 32 (V8 0)).toArray (fun wq hq => other_row hq (fun w hq => ⟨hq.2.1, hq.2.2⟩) (by omega)) ld_IR.out ld_S.out ld_O.out (Stable.below w13) (fun wq hq => below_setRow (row_below hq (fun w hq => hq.1.1.1) G11) G12 _) ?_
            try simp only [Act.put, List.setIfInBounds_toArray, List.set_cons_zero, List.set_cons_succ]
            refine wpL_val ?v86 rfl (by rfl) (fun wq hq => ?y86) ?z86
            case y86 => go_simp; with_reducible rfl
            try simp only [Act.put, List.setIfInBounds_toArray, List.set_cons_zero, List.set_cons_succ]
            refine wpL_nil ?_
            refine wpB_end (by kernel_rfl) ?_
            intro wt hwt
            have hfin := rows_fin hwt (fun w hq => hq.1.1.1) (fun w hq => ⟨hq.1.2.1, hq.1.2.2⟩) (by omega) G11 G12
            go_wp2_with fail
            go_meet
            case rel => exact ⟨g1, rfl, hfin.2, hfin.1⟩
          · simp only [opsOf, List.getElem?_cons_succ, List.getElem?_cons_zero, List.drop_succ_cons, List.drop_zero]
            refine wpL_new (fun g => .pointer (some ⟨g, 0, none⟩)) (.cells (List.replicate 32 (V8 0)).toArray 23) rfl (by rfl) (Stable.fresh (Stable.made (Stable.below w13) (stabDigs pS _)) _ _) (fun _ h => h.1.1) (fun wq hq => ?y89) (fun g2 hg2 => ?_)
            case y89 => exact run_al _ rfl 32 _ zero23
            try simp only [Act.put, List.setIfInBounds_toArray, List.set_cons_zero, List.set_cons_succ]
            have G12 : w13.heap.size ≤ g2 := by obtain ⟨wq, hq, rfl⟩ := hg2; exact hq.1.1.size
            have GN : g1 < g2 := by obtain ⟨wq, hq, rfl⟩ := hg2; exact hq.2.1
            refine wpL_nil ?_
            refine wpB_list [6] [6] 7 rfl (by kernel_rfl) ?_
            simp only [opsOf, List.getElem?_cons_succ, List.getElem?_cons_zero, List.drop_succ_cons, List.drop_zero]
            refine wpL_one ?v92 rfl (by rfl) (Stable.fresh (Stable.fresh (Stable.made (Stable.below w13) (stabDigs pS _)) _ _) _ _) (fun _ h => h.1.1.1) (fun wq hq => ?y92) ?z92
            case y92 => go_simp; exact hextR _ _ hq.1.1.2
            try simp only [Act.put, List.setIfInBounds_toArray, List.set_cons_zero, List.set_cons_succ]
            refine wpL_nil ?_
            refine wpB_list [] [7, 8, 9, 10] 3 rfl (by kernel_rfl) ?_
            simp only [opsOf, List.getElem?_cons_succ, List.getElem?_cons_zero, List.drop_succ_cons, List.drop_zero]
            refine wpL_val ?v95 rfl (by rfl) (fun wq hq => ?y95) ?z95
            case y95 => go_simp; with_reducible rfl
            try simp only [Act.put, List.setIfInBounds_toArray, List.set_cons_zero, List.set_cons_succ]
            refine wpL_val ?v96 rfl (by rfl) (fun wq hq => ?y96) ?z96
            case y96 => go_simp; with_reducible rfl
            try simp only [Act.put, List.setIfInBounds_toArray, List.set_cons_zero, List.set_cons_succ]
            refine wpL_val ?v97 rfl (by rfl) (fun wq hq => ?y97) ?z97
            case y97 => go_simp; with_reducible rfl
            try simp only [Act.put, List.setIfInBounds_toArray, List.set_cons_zero, List.set_cons_succ]
            refine wpL_val ?v98 rfl (by rfl) (fun wq hq => ?y98) ?z98
            case y98 => go_simp; with_reducible rfl
            try simp only [Act.put, List.setIfInBounds_toArray, List.set_cons_zero, List.set_cons_succ]
            refine wpL_nil ?_
            refine wpB_list [13, 14] [13, 14, 15] 0 rfl (by kernel_rfl) ?_
            simp only [opsOf, List.getElem?_cons_succ, List.getElem?_cons_zero, List.drop_succ_cons, List.drop_zero]
            refine wpL_store rfl (by rfl) 23 (.tmp 21) (.tmp 120) rfl g1 lc.toArray rfl rfl 23 (List.replicate 32 (V8 0)).toArray (fun wq hq => hq.1.2.2) lc_IR.out lc_S.out lc_O.out (Stable.below w13) (fun wq hq => below_setRow hq.1.1.1 G11 _) ?_
            try simp only [Act.put, List.setIfInBounds_toArray, List.set_cons_zero, List.set_cons_succ]
            refine wpL_store rfl (by rfl) 23 (.tmp 22) (.tmp 121) rfl g2 ld.toArray rfl rfl 23 (List.replicate 32 (V8 0)).toArray (fun wq hq => other_row hq (fun w hq => ⟨hq.2.1, hq.2.2⟩) (by omega)) ld_IR.out ld_S.out ld_O.out (Stable.below w13) (fun wq hq => below_setRow (row_below hq (fun w hq => hq.1.1.1) G11) G12 _) ?_
            try simp only [Act.put, List.setIfInBounds_toArray, List.set_cons_zero, List.set_cons_succ]
            refine wpL_val ?v101 rfl (by rfl) (fun wq hq => ?y101) ?z101
            case y101 => go_simp; with_reducible rfl
            try simp only [Act.put, List.setIfInBounds_toArray, List.set_cons_zero, List.set_cons_succ]
            refine wpL_nil ?_
            refine wpB_end (by kernel_rfl) ?_
            intro wt hwt
            have hfin := rows_fin hwt (fun w hq => hq.1.1.1) (fun w hq => ⟨hq.1.2.1, hq.1.2.2⟩) (by omega) G11 G12
            go_wp2_with fail
            go_meet
            case rel => exact ⟨g1, rfl, hfin.2, hfin.1⟩
        · simp only [opsOf, List.getElem?_cons_succ, List.getElem?_cons_zero, List.drop_succ_cons, List.drop_zero]
          refine wpL_new (fun g => .pointer (some ⟨g, 0, none⟩)) (.cells (List.replicate 32 (V8 0)).toArray 23) rfl (by rfl) (Stable.made (Stable.below w13) (stabDigs pS _)) (fun _ h => h.1) (fun wq hq => ?y104) (fun g1 hg1 => ?_)
          case y104 => exact run_al _ rfl 32 _ zero23
          try simp only [Act.put, List.setIfInBounds_toArray, List.set_cons_zero, List.set_cons_succ]
          have G12 : w13.heap.size ≤ g1 := by obtain ⟨wq, hq, rfl⟩ := hg1; exact hq.1.size
          refine wpL_nil ?_
          refine wpB_two 6 11 8 (by kernel_rfl) ?_ ?_
          · simp only [opsOf, List.getElem?_cons_succ, List.getElem?_cons_zero, List.drop_succ_cons, List.drop_zero]
            refine wpL_one ?v107 rfl (by rfl) (Stable.fresh (Stable.made (Stable.below w13) (stabDigs pS _)) _ _) (fun _ h => h.1.1) (fun wq hq => ?y107) ?z107
            case y107 => go_simp; exact hextR _ _ hq.1.2
            try simp only [Act.put, List.setIfInBounds_toArray, List.set_cons_zero, List.set_cons_succ]
            refine wpL_nil ?_
            refine wpB_list [] [7, 8, 9, 10] 4 rfl (by kernel_rfl) ?_
            simp only [opsOf, List.getElem?_cons_succ, List.getElem?_cons_zero, List.drop_succ_cons, List.drop_zero]
            refine wpL_val ?v110 rfl (by rfl) (fun wq hq => ?y110) ?z110
            case y110 => go_simp; with_reducible rfl
            try simp only [Act.put, List.setIfInBounds_toArray, List.set_cons_zero, List.set_cons_succ]
            refine wpL_val ?v111 rfl (by rfl) (fun wq hq => ?y111) ?z111
            case y111 => go_simp; with_reducible rfl
            try simp only [Act.put, List.setIfInBounds_toArray, List.set_cons_zero, List.set_cons_succ]
            refine wpL_val ?v112 rfl (by rfl) (fun wq hq => ?y112) ?z112
            case y112 => go_simp; with_reducible rfl
            try simp only [Act.put, List.setIfInBounds_toArray, List.set_cons_zero, List.set_cons_succ]
            refine wpL_val ?v113 rfl (by rfl) (fun wq hq => ?y113) ?z113
            case y113 => go_simp; with_reducible rfl
            try simp only [Act.put, List.setIfInBounds_toArray, List.set_cons_zero, List.set_cons_succ]
            refine wpL_nil ?_
            refine wpB_list [11] [11] 3 rfl (by kernel_rfl) ?_
            simp only [opsOf, List.getElem?_cons_succ, List.getElem?_cons_zero, List.drop_succ_cons, List.drop_zero]
            refine wpL_new (fun g => .pointer (some ⟨g, 0, none⟩)) (.cells (List.replicate 32 (V8 0)).toArray 23) rfl (by rfl) (Stable.fresh (Stable.made (Stable.below w13) (stabDigs pS _)) _ _) (fun _ h => h.1.1) (fun wq hq => ?y116) (fun g2 hg2 => ?_)
            case y116 => exact run_al _ rfl 32 _ zero23
            try simp only [Act.put, List.setIfInBounds_toArray, List.set_cons_zero, List.set_cons_succ]
            have G11 : w13.heap.size ≤ g2 := by obtain ⟨wq, hq, rfl⟩ := hg2; exact hq.1.1.size
            have GN : g1 < g2 := by obtain ⟨wq, hq, rfl⟩ := hg2; exact hq.2.1
            refine wpL_nil ?_
            refine wpB_list [13, 14] [13, 14, 15] 0 rfl (by kernel_rfl) ?_
            simp only [opsOf, List.getElem?_cons_succ, List.getElem?_cons_zero, List.drop_succ_cons, List.drop_zero]
            refine wpL_store rfl (by rfl) 23 (.tmp 21) (.tmp 120) rfl g2 lc.toArray rfl rfl 23 (List.replicate 32 (V8 0)).toArray (fun wq hq => hq.2.2) lc_IR.out lc_S.out lc_O.out (Stable.below w13) (fun wq hq => below_setRow hq.1.1.1 G11 _) ?_
            try simp only [Act.put, List.setIfInBounds_toArray, List.set_cons_zero, List.set_cons_succ]
            refine wpL_store rfl (by rfl) 23 (.tmp 22) (.tmp 121) rfl g1 ld.toArray rfl rfl 23 (List.replicate 32 (V8 0)).toArray (fun wq hq => other_row hq (fun w hq => ⟨hq.1.2.1, hq.1.2.2⟩) (by omega)) ld_IR.out ld_S.out ld_O.out (Stable.below w13) (fun wq hq => below_setRow (row_below hq (fun w hq => hq.1.1.1) G11) G12 _) ?_
            try simp only [Act.put, List.setIfInBounds_toArray, List.set_cons_zero, List.set_cons_succ]
            refine wpL_val ?v119 rfl (by rfl) (fun wq hq => ?y119) ?z119
            case y119 => go_simp; with_reducible rfl
            try simp only [Act.put, List.setIfInBounds_toArray, List.set_cons_zero, List.set_cons_succ]
            refine wpL_nil ?_
            refine wpB_end (by kernel_rfl) ?_
            intro wt hwt
            have hfin := rows_fin hwt (fun w hq => hq.1.1.1) (fun w hq => ⟨hq.2.1, hq.2.2⟩) (by omega) G11 G12
            go_wp2_with fail
            go_meet
            case rel => exact ⟨g2, rfl, hfin.2, hfin.1⟩
          · simp only [opsOf, List.getElem?_cons_succ, List.getElem?_cons_zero, List.drop_succ_cons, List.drop_zero]
            refine wpL_new (fun g => .pointer (some ⟨g, 0, none⟩)) (.cells (List.replicate 32 (V8 0)).toArray 23) rfl (by rfl) (Stable.fresh (Stable.made (Stable.below w13) (stabDigs pS _)) _ _) (fun _ h => h.1.1) (fun wq hq => ?y122) (fun g2 hg2 => ?_)
            case y122 => exact run_al _ rfl 32 _ zero23
            try simp only [Act.put, List.setIfInBounds_toArray, List.set_cons_zero, List.set_cons_succ]
            have G11 : w13.heap.size ≤ g2 := by obtain ⟨wq, hq, rfl⟩ := hg2; exact hq.1.1.size
            have GN : g1 < g2 := by obtain ⟨wq, hq, rfl⟩ := hg2; exact hq.2.1
            refine wpL_nil ?_
            refine wpB_list [6] [6] 7 rfl (by kernel_rfl) ?_
            simp only [opsOf, List.getElem?_cons_succ, List.getElem?_cons_zero, List.drop_succ_cons, List.drop_zero]
            refine wpL_one ?v125 rfl (by rfl) (Stable.fresh (Stable.fresh (Stable.made (Stable.below w13) (stabDigs pS _)) _ _) _ _) (fun _ h => h.1.1.1) (fun wq hq => ?y125) ?z125
            case y125 => go_simp; exact hextR _ _ hq.1.1.2
            try simp only [Act.put, List.setIfInBounds_toArray, List.set_cons_zero, List.set_cons_succ]
            refine wpL_nil ?_
            refine wpB_list [] [7, 8, 9, 10] 3 rfl (by kernel_rfl) ?_
            simp only [opsOf, List.getElem?_cons_succ, List.getElem?_cons_zero, List.drop_succ_cons, List.drop_zero]
            refine wpL_val ?v128 rfl (by rfl) (fun wq hq => ?y128) ?z128
            case y128 => go_simp; with_reducible rfl
            try simp only [Act.put, List.setIfInBounds_toArray, List.set_cons_zero, List.set_cons_succ]
            refine wpL_val ?v129 rfl (by rfl) (fun wq hq => ?y129) ?z129
            case y129 => go_simp; with_reducible rfl
            try simp only [Act.put, List.setIfInBounds_toArray, List.set_cons_zero, List.set_cons_succ]
            refine wpL_val ?v130 rfl (by rfl) (fun wq hq => ?y130) ?z130
            case y130 => go_simp; with_reducible rfl
            try simp only [Act.put, List.setIfInBounds_toArray, List.set_cons_zero, List.set_cons_succ]
            refine wpL_val ?v131 rfl (by rfl) (fun wq hq => ?y131) ?z131
            case y131 => go_simp; with_reducible rfl
            try simp only [Act.put, List.setIfInBounds_toArray, List.set_cons_zero, List.set_cons_succ]
            refine wpL_nil ?_
            refine wpB_list [13, 14] [13, 14, 15] 0 rfl (by kernel_rfl) ?_
            simp only [opsOf, List.getElem?_cons_succ, List.getElem?_cons_zero, List.drop_succ_cons, List.drop_zero]
            refine wpL_store rfl (by rfl) 23 (.tmp 21) (.tmp 120) rfl g2 lc.toArray rfl rfl 23 (List.replicate 32 (V8 0)).toArray (fun wq hq => hq.2.2) lc_IR.out lc_S.out lc_O.out (Stable.below w13) (fun wq hq => below_setRow hq.1.1.1 G11 _) ?_
            try simp only [Act.put, List.setIfInBounds_toArray, List.set_cons_zero, List.set_cons_succ]
            refine wpL_store rfl (by rfl) 23 (.tmp 22) (.tmp 121) rfl g1 ld.toArray rfl rfl 23 (List.replicate 32 (V8 0)).toArray (fun wq hq => other_row hq (fun w hq => ⟨hq.1.2.1, hq.1.2.2⟩) (by omega)) ld_IR.out ld_S.out ld_O.out (Stable.below w13) (fun wq hq => below_setRow (row_below hq (fun w hq => hq.1.1.1) G11) G12 _) ?_
            try simp only [Act.put, List.setIfInBounds_toArray, List.set_cons_zero, List.set_cons_succ]
            refine wpL_val ?v134 rfl (by rfl) (fun wq hq => ?y134) ?z134
            case y134 => go_simp; with_reducible rfl
            try simp only [Act.put, List.setIfInBounds_toArray, List.set_cons_zero, List.set_cons_succ]
            refine wpL_nil ?_
            refine wpB_end (by kernel_rfl) ?_
            intro wt hwt
            have hfin := rows_fin hwt (fun w hq => hq.1.1.1) (fun w hq => ⟨hq.2.1, hq.2.2⟩) (by omega) G11 G12
            go_wp2_with fail
            go_meet
            case rel => exact ⟨g2, rfl, hfin.2, hfin.1⟩
      · simp only [opsOf, List.getElem?_cons_succ, List.getElem?_cons_zero, List.drop_succ_cons, List.drop_zero]
        refine wpL_new (fun g => .pointer (some ⟨g, 0, none⟩)) (.cells (List.replicate 32 (V8 0)).toArray 23) rfl (by rfl) (Stable.below w13) (fun _ h => h) (fun wq hq => ?y137) (fun g0 hg0 => ?_)
        case y137 => exact run_al _ rfl 32 _ zero23
        try simp only [Act.put, List.setIfInBounds_toArray, List.set_cons_zero, List.set_cons_succ]
        have G11 : w13.heap.size ≤ g0 := by obtain ⟨wq, hq, rfl⟩ := hg0; exact hq.size
        refine wpL_nil ?_
        refine wpB_two 5 12 9 (by kernel_rfl) ?_ ?_
        · simp only [opsOf, List.getElem?_cons_succ, List.getElem?_cons_zero, List.drop_succ_cons, List.drop_zero]
          refine wpL_made (fun v => ∃ a c, v = .slice a pS.length c) (fun v w => Digs w v pS) rfl (by rfl) (Stable.fresh (Stable.below w13) _ _) (fun _ h => h.1) (stabDigs pS) (fun wq hq => ?y140) ?_
          case y140 => unfold genAt; go_simp; refine (hback _ _ (HE13.out.dp.below hq.1 (Nat.le_refl _))).mono ?_; rintro e wz ⟨⟨vz, rfl, hV⟩, hb⟩; exact ⟨vz, rfl, hV.shape, hV, hb⟩
          intro v5 hv5; obtain ⟨a5, c5, rfl⟩ := hv5
          try simp only [Act.put, List.setIfInBounds_toArray, List.set_cons_zero, List.set_cons_succ]
          refine wpL_nil ?_
          refine wpB_two 6 12 8 (by kernel_rfl) ?_ ?_
          · simp only [opsOf, List.getElem?_cons_succ, List.getElem?_cons_zero, List.drop_succ_cons, List.drop_zero]
            refine wpL_one ?v143 rfl (by rfl) (Stable.made (Stable.fresh (Stable.below w13) _ _) (stabDigs pS _)) (fun _ h => h.1.1) (fun wq hq => ?y143) ?z143
            case y143 => go_simp; exact hextR _ _ hq.2
            try simp only [Act.put, List.setIfInBounds_toArray, List.set_cons_zero, List.set_cons_succ]
            refine wpL_nil ?_
            refine wpB_list [] [7, 8, 9, 10] 4 rfl (by kernel_rfl) ?_
            simp only [opsOf, List.getElem?_cons_succ, List.getElem?_cons_zero, List.drop_succ_cons, List.drop_zero]
            refine wpL_val ?v146 rfl (by rfl) (fun wq hq => ?y146) ?z146
            case y146 => go_simp; with_reducible rfl
            try simp only [Act.put, List.setIfInBounds_toArray, List.set_cons_zero, List.set_cons_succ]
            refine wpL_val ?v147 rfl (by rfl) (fun wq hq => ?y147) ?z147
            case y147 => go_simp; with_reducible rfl
            try simp only [Act.put, List.setIfInBounds_toArray, List.set_cons_zero, List.set_cons_succ]
            refine wpL_val ?v148 rfl (by rfl) (fun wq hq => ?y148) ?z148
            case y148 => go_simp; with_reducible rfl
            try simp only [Act.put, List.setIfInBounds_toArray, List.set_cons_zero, List.set_cons_succ]
            refine wpL_val ?v149 rfl (by rfl) (fun wq hq => ?y149) ?z149
            case y149 => go_simp; with_reducible rfl
            try simp only [Act.put, List.setIfInBounds_toArray, List.set_cons_zero, List.set_cons_succ]
            refine wpL_nil ?_
            refine wpB_list [12] [12] 3 rfl (by kernel_rfl) ?_
            simp only [opsOf, List.getElem?_cons_succ, List.getElem?_cons_zero, List.drop_succ_cons, List.drop_zero]
            refine wpL_new (fun g => .pointer (some ⟨g, 0, none⟩)) (.cells (List.replicate 32 (V8 0)).toArray 23) rfl (by rfl) (Stable.made (Stable.fresh (Stable.below w13) _ _) (stabDigs pS _)) (fun _ h => h.1.1) (fun wq hq => ?y152) (fun g2 hg2 => ?_)
            case y152 => exact run_al _ rfl 32 _ zero23
            try simp only [Act.put, List.setIfInBounds_toArray, List.set_cons_zero, List.set_cons_succ]
            have G12 : w13.heap.size ≤ g2 := by obtain ⟨wq, hq, rfl⟩ := hg2; exact hq.1.1.size
            have GN : g0 < g2 := by obtain ⟨wq, hq, rfl⟩ := hg2; exact hq.1.2.1
            refine wpL_nil ?_
            refine wpB_list [13, 14] [13, 14, 15] 0 rfl (by kernel_rfl) ?_
            simp only [opsOf, List.getElem?_cons_succ, List.getElem?_cons_zero, List.drop_succ_cons, List.drop_zero]
            refine wpL_store rfl (by rfl) 23 (.tmp 21) (.tmp 120) rfl g0 lc.toArray rfl rfl 23 (List.replicate 32 (V8 0)).toArray (fun wq hq => hq.1.1.2.2) lc_IR.out lc_S.out lc_O.out (Stable.below w13) (fun wq hq => below_setRow hq.1.1.1 G11 _) ?_
            try simp only [Act.put, List.setIfInBounds_toArray, List.set_cons_zero, List.set_cons_succ]
            refine wpL_store rfl (by rfl) 23 (.tmp 22) (.tmp 121) rfl g2 ld.toArray rfl rfl 23 (List.replicate 32 (V8 0)).toArray (fun wq hq => other_row hq (fun w hq => ⟨hq.2.1, hq.2.2⟩) (by omega)) ld_IR.out ld_S.out ld_O.out (Stable.below w13) (fun wq hq => below_setRow (row_below hq (fun w hq => hq.1.1.1) G11) G12 _) ?_
            try simp only [Act.put, List.setIfInBounds_toArray, List.set_cons_zero, List.set_cons_succ]
            refine wpL_val ?v155 rfl (by rfl) (fun wq hq => ?y155) ?z155
            case y155 => go_simp; with_reducible rfl
            try simp only [Act.put, List.setIfInBounds_toArray, List.set_cons_zero, List.set_cons_succ]
            refine wpL_nil ?_
            refine wpB_end (by kernel_rfl) ?_
            intro wt hwt
            have hfin := rows_fin hwt (fun w hq => hq.1.1.1) (fun w hq => ⟨hq.1.1.2.1, hq.1.1.2.2⟩) (by omega) G11 G12
            go_wp2_with fail
            go_meet
            case rel => exact ⟨g0, rfl, hfin.2, hfin.1⟩
          · simp only [opsOf, List.getElem?_cons_succ, List.getElem?_cons_zero, List.drop_succ_cons, List.drop_zero]
            refine wpL_new (fun g => .pointer (some ⟨g, 0, none⟩)) (.cells (List.replicate 32 (V8 0)).toArray 23) rfl (by rfl) (Stable.made (Stable.fresh (Stable.below w13) _ _) (stabDigs pS _)) (fun _ h => h.1.1) (fun wq hq => ?y158) (fun g2 hg2 => ?_)
            case y158 => exact run_al _ rfl 32 _ zero23
            try simp only [Act.put, List.setIfInBounds_toArray, List.set_cons_zero, List.set_cons_succ]
            have G12 : w13.heap.size ≤ g2 := by obtain ⟨wq, hq, rfl⟩ := hg2; exact hq.1.1.size
            have GN : g0 < g2 := by obtain ⟨wq, hq, rfl⟩ := hg2; exact hq.1.2.1
            refine wpL_nil ?_
            refine wpB_list [6] [6] 7 rfl (by kernel_rfl) ?_
            simp only [opsOf, List.getElem?_cons_succ, List.getElem?_cons_zero, List.drop_succ_cons, List.drop_zero]
            refine wpL_one ?v161 rfl (by rfl) (Stable.fresh (Stable.made (Stable.fresh (Stable.below w13) _ _) (stabDigs pS _)) _ _) (fun _ h => h.1.1.1) (fun wq hq => ?y161) ?z161
            case y161 => go_simp; exact hextR _ _ hq.1.2
            try simp only [Act.put, List.setIfInBounds_toArray, List.set_cons_zero, List.set_cons_succ]
            refine wpL_nil ?_
            refine wpB_list [] [7, 8, 9, 10] 3 rfl (by kernel_rfl) ?_
            simp only [opsOf, List.getElem?_cons_succ, List.getElem?_cons_zero, List.drop_succ_cons, List.drop_zero]
            refine wpL_val ?v164 rfl (by rfl) (fun wq hq => ?y164) ?z164
            case y164 => go_simp; with_reducible rfl
            try simp only [Act.put, List.setIfInBounds_toArray, List.set_cons_zero, List.set_cons_succ]
            refine wpL_val ?v165 rfl (by rfl) (fun wq hq => ?y165) ?z165
            case y165 => go_simp; with_reducible rfl
            try simp only [Act.put, List.setIfInBounds_toArray, List.set_cons_zero, List.set_cons_succ]
            refine wpL_val ?v166 rfl (by rfl) (fun wq hq => ?y166) ?z166
            case y166 => go_simp; with_reducible rfl
            try simp only [Act.put, List.setIfInBounds_toArray, List.set_cons_zero, List.set_cons_succ]
            refine wpL_val ?v167 rfl (by rfl) (fun wq hq => ?y167) ?z167
            case y167 => go_simp; with_reducible rfl
            try simp only [Act.put, List.setIfInBounds_toArray, List.set_cons_zero, List.set_cons_succ]
            refine wpL_nil ?_
            refine wpB_list [13, 14] [13, 14, 15] 0 rfl (by kernel_rfl) ?_
            simp only [opsOf, List.getElem?_cons_succ, List.getElem?_cons_zero, List.drop_succ_cons, List.drop_zero]
            refine wpL_store rfl (by rfl) 23 (.tmp 21) (.tmp 120) rfl g0 lc.toArray rfl rfl 23 (List.replicate 32 (V8 0)).toArray (fun wq hq => hq.1.1.2.2) lc_IR.out lc_S.out lc_O.out (Stable.below w13) (fun wq hq => below_setRow hq.1.1.1 G11 _) ?_
            try simp only [Act.put, List.setIfInBounds_toArray, List.set_cons_zero, List.set_cons_succ]
            refine wpL_store rfl (by rfl) 23 (.tmp 22) (.tmp 121) rfl g2 ld.toArray rfl rfl 23 (List.replicate 32 (V8 0)).toArray (fun wq hq => other_row hq (fun w hq => ⟨hq.2.1, hq.2.2⟩) (by omega)) ld_IR.out ld_S.out ld_O.out (Stable.below w13) (fun wq hq => below_setRow (row_below hq (fun w hq => hq.1.1.1) G11) G12 _) ?_
            try simp only [Act.put, List.setIfInBounds_toArray, List.set_cons_zero, List.set_cons_succ]
            refine wpL_val ?v170 rfl (by rfl) (fun wq hq => ?y170) ?z170
            case y170 => go_simp; with_reducible rfl
            try simp only [Act.put, List.setIfInBounds_toArray, List.set_cons_zero, List.set_cons_succ]
            refine wpL_nil ?_
            refine wpB_end (by kernel_rfl) ?_
            intro wt hwt
            have hfin := rows_fin hwt (fun w hq => hq.1.1.1) (fun w hq => ⟨hq.1.1.2.1, hq.1.1.2.2⟩) (by omega) G11 G12
            go_wp2_with fail
            go_meet
            case rel => exact ⟨g0, rfl, hfin.2, hfin.1⟩
        · simp only [opsOf, List.getElem?_cons_succ, List.getElem?_cons_zero, List.drop_succ_cons, List.drop_zero]
          refine wpL_new (fun g => .pointer (some ⟨g, 0, none⟩)) (.cells (List.replicate 32 (V8 0)).toArray 23) rfl (by rfl) (Stable.fresh (Stable.below w13) _ _) (fun _ h => h.1) (fun wq hq => ?y173) (fun g1 hg1 => ?_)
          case y173 => exact run_al _ rfl 32 _ zero23
          try simp only [Act.put, List.setIfInBounds_toArray, List.set_cons_zero, List.set_cons_succ]
          have G12 : w13.heap.size ≤ g1 := by obtain ⟨wq, hq, rfl⟩ := hg1; exact hq.1.size
          have GN : g0 < g1 := by obtain ⟨wq, hq, rfl⟩ := hg1; exact hq.2.1
          refine wpL_nil ?_
          refine wpB_list [5] [5] 8 rfl (by kernel_rfl) ?_
          simp only [opsOf, List.getElem?_cons_succ, List.getElem?_cons_zero, List.drop_succ_cons, List.drop_zero]
          refine wpL_made (fun v => ∃ a c, v = .slice a pS.length c) (fun v w => Digs w v pS) rfl (by rfl) (Stable.fresh (Stable.fresh (Stable.below w13) _ _) _ _) (fun _ h => h.1.1) (stabDigs pS) (fun wq hq => ?y176) ?_
          case y176 => unfold genAt; go_simp; refine (hback _ _ (HE13.out.dp.below hq.1.1 (Nat.le_refl _))).mono ?_; rintro e wz ⟨⟨vz, rfl, hV⟩, hb⟩; exact ⟨vz, rfl, hV.shape, hV, hb⟩
          intro v5 hv5; obtain ⟨a5, c5, rfl⟩ := hv5
          try simp only [Act.put, List.setIfInBounds_toArray, List.set_cons_zero, List.set_cons_succ]
          refine wpL_nil ?_
          refine wpB_list [6] [6] 7 rfl (by kernel_rfl) ?_
          simp only [opsOf, List.getElem?_cons_succ, List.getElem?_cons_zero, List.drop_succ_cons, List.drop_zero]
          refine wpL_one ?v179 rfl (by rfl) (Stable.made (Stable.fresh (Stable.fresh (Stable.below w13) _ _) _ _) (stabDigs pS _)) (fun _ h => h.1.1.1) (fun wq hq => ?y179) ?z179
          case y179 => go_simp; exact hextR _ _ hq.2
          try simp only [Act.put, List.setIfInBounds_toArray, List.set_cons_zero, List.set_cons_succ]
          refine wpL_nil ?_
          refine wpB_list [] [7, 8, 9, 10] 3 rfl (by kernel_rfl) ?_
          simp only [opsOf, List.getElem?_cons_succ, List.getElem?_cons_zero, List.drop_succ_cons, List.drop_zero]
          refine wpL_val ?v182 rfl (by rfl) (fun wq hq => ?y182) ?z182
          case y182 => go_simp; with_reducible rfl
          try simp only [Act.put, List.setIfInBounds_toArray, List.set_cons_zero, List.set_cons_succ]
          refine wpL_val ?v183 rfl (by rfl) (fun wq hq => ?y183) ?z183
          case y183 => go_simp; with_reducible rfl
          try simp only [Act.put, List.setIfInBounds_toArray, List.set_cons_zero, List.set_cons_succ]
          refine wpL_val ?v184 rfl (by rfl) (fun wq hq => ?y184) ?z184
          case y184 => go_simp; with_reducible rfl
          try simp only [Act.put, List.setIfInBounds_toArray, List.set_cons_zero, List.set_cons_succ]
          refine wpL_val ?v185 rfl (by rfl) (fun wq hq => ?y185) ?z185
          case y185 => go_simp; with_reducible rfl
          try simp only [Act.put, List.setIfInBounds_toArray, List.set_cons_zero, List.set_cons_succ]
          refine wpL_nil ?_
          refine wpB_list [13, 14] [13, 14, 15] 0 rfl (by kernel_rfl) ?_
          simp only [opsOf, List.getElem?_cons_succ, List.getElem?_cons_zero, List.drop_succ_cons, List.drop_zero]
          refine wpL_store rfl (by rfl) 23 (.tmp 21) (.tmp 120) rfl g0 lc.toArray rfl rfl 23 (List.replicate 32 (V8 0)).toArray (fun wq hq => hq.1.1.2.2) lc_IR.out lc_S.out lc_O.out (Stable.below w13) (fun wq hq => below_setRow hq.1.1.1 G11 _) ?_
          try simp only [Act.put, List.setIfInBounds_toArray, List.set_cons_zero, List.set_cons_succ]
          refine wpL_store rfl (by rfl) 23 (.tmp 22) (.tmp 121) rfl g1 ld.toArray rfl rfl 23 (List.replicate 32 (V8 0)).toArray (fun wq hq => other_row hq (fun w hq => ⟨hq.1.2.1, hq.1.2.2⟩) (by omega)) ld_IR.out ld_S.out ld_O.out (Stable.below w13) (fun wq hq => below_setRow (row_below hq (fun w hq => hq.1.1.1) G11) G12 _) ?_
          try simp only [Act.put, List.setIfInBounds_toArray, List.set_cons_zero, List.set_cons_succ]
          refine wpL_val ?v188 rfl (by rfl) (fun wq hq => ?y188) ?z188
          case y188 => go_simp; with_reducible rfl
          try simp only [Act.put, List.setIfInBounds_toArray, List.set_cons_zero, List.set_cons_succ]
          refine wpL_nil ?_
          refine wpB_end (by kernel_rfl) ?_
          intro wt hwt
          have hfin := rows_fin hwt (fun w hq => hq.1.1.1) (fun w hq => ⟨hq.1.1.2.1, hq.1.1.2.2⟩) (by omega) G11 G12
          go_wp2_with fail
          go_meet
          case rel => exact ⟨g0, rfl, hfin.2, hfin.1⟩
      · simp only [opsOf, List.getElem?_cons_succ, List.getElem?_cons_zero, List.drop_succ_cons, List.drop_zero]
        refine wpL_new (fun g => .pointer (some ⟨g, 0, none⟩)) (.cells (List.replicate 32 (V8 0)).toArray 23) rfl (by rfl) (Stable.below w13) (fun _ h => h) (fun wq hq => ?y191) (fun g0 hg0 => ?_)
        case y191 => exact run_al _ rfl 32 _ zero23
        try simp only [Act.put, List.setIfInBounds_toArray, List.set_cons_zero, List.set_cons_succ]
        have G12 : w13.heap.size ≤ g0 := by obtain ⟨wq, hq, rfl⟩ := hg0; exact hq.size
        refine wpL_nil ?_
        refine wpB_two 5 11 9 (by kernel_rfl) ?_ ?_
        · simp only [opsOf, List.getElem?_cons_succ, List.getElem?_cons_zero, List.drop_succ_cons, List.drop_zero]
          refine wpL_made (fun v => ∃ a c, v = .slice a pS.length c) (fun v w => Digs w v pS) rfl (by rfl) (Stable.fresh (Stable.below w13) _ _) (fun _ h => h.1) (stabDigs pS) (fun wq hq => ?y194) ?_
          case y194 => unfold genAt; go_simp; refine (hback _ _ (HE13.out.dp.below hq.1 (Nat.le_refl _))).mono ?_; rintro e wz ⟨⟨vz, rfl, hV⟩, hb⟩; exact ⟨vz, rfl, hV.shape, hV, hb⟩
          intro v5 hv5; obtain ⟨a5, c5, rfl⟩ := hv5
          try simp only [Act.put, List.setIfInBounds_toArray, List.set_cons_zero, List.set_cons_succ]
          refine wpL_nil ?_
          refine wpB_two 6 11 8 (by kernel_rfl) ?_ ?_
          · simp only [opsOf, List.getElem?_cons_succ, List.getElem?_cons_zero, List.drop_succ_cons, List.drop_zero]
            refine wpL_one ?v197 rfl (by rfl) (Stable.made (Stable.fresh (Stable.below w13) _ _) (stabDigs pS _)) (fun _ h => h.1.1) (fun wq hq => ?y197) ?z197
            case y197 => go_simp; exact hextR _ _ hq.2
            try simp only [Act.put, List.setIfInBounds_toArray, List.set_cons_zero, List.set_cons_succ]
            refine wpL_nil ?_
            refine wpB_list [] [7, 8, 9, 10] 4 rfl (by kernel_rfl) ?_
            simp only [opsOf, List.getElem?_cons_succ, List.getElem?_cons_zero, List.drop_succ_cons, List.drop_zero]
            refine wpL_val ?v200 rfl (by rfl) (fun wq hq => ?y200) ?z200
            case y200 => go_simp; with_reducible rfl
            try simp only [Act.put, List.setIfInBounds_toArray, List.set_cons_zero, List.set_cons_succ]
            refine wpL_val ?v201 rfl (by rfl) (fun wq hq => ?y201) ?z201
            case y201 => go_simp; with_reducible rfl
            try simp only [Act.put, List.setIfInBounds_toArray, List.set_cons_zero, List.set_cons_succ]
            refine wpL_val ?v202 rfl (by rfl) (fun wq hq => ?y202) ?z202
            case y202 => go_simp; with_reducible rfl
            try simp only [Act.put, List.setIfInBounds_toArray, List.set_cons_zero, List.set_cons_succ]
            refine wpL_val ?v203 rfl (by rfl) (fun wq hq => ?y203) ?z203
            case y203 => go_simp; with_reducible rfl
            try simp only [Act.put, List.setIfInBounds_toArray, List.set_cons_zero, List.set_cons_succ]
            refine wpL_nil ?_
            refine wpB_list [11] [11] 3 rfl (by kernel_rfl) ?_
            simp only [opsOf, List.getElem?_cons_succ, List.getElem?_cons_zero, List.drop_succ_cons, List.drop_zero]
            refine wpL_new (fun g => .pointer (some ⟨g, 0, none⟩)) (.cells (List.replicate 32 (V8 0)).toArray 23) rfl (by rfl) (Stable.made (Stable.fresh (Stable.below w13) _ _) (stabDigs pS _)) (fun _ h => h.1.1) (fun wq hq => ?y206) (fun g2 hg2 => ?_)
            case y206 => exact run_al _ rfl 32 _ zero23
            try simp only [Act.put, List.setIfInBounds_toArray, List.set_cons_zero, List.set_cons_succ]
            have G11 : w13.heap.size ≤ g2 := by obtain ⟨wq, hq, rfl⟩ := hg2; exact hq.1.1.size
            have GN : g0 < g2 := by obtain ⟨wq, hq, rfl⟩ := hg2; exact hq.1.2.1
            refine wpL_nil ?_
            refine wpB_list [13, 14] [13, 14, 15] 0 rfl (by kernel_rfl) ?_
            simp only [opsOf, List.getElem?_cons_succ, List.getElem?_cons_zero, List.drop_succ_cons, List.drop_zero]
            refine wpL_store rfl (by rfl) 23 (.tmp 21) (.tmp 120) rfl g2 lc.toArray rfl rfl 23 (List.replicate 32 (V8 0)).toArray (fun wq hq => hq.2.2) lc_IR.out lc_S.out lc_O.out (Stable.below w13) (fun wq hq => below_setRow hq.1.1.1 G11 _) ?_
            try simp only [Act.put, List.setIfInBounds_toArray, List.set_cons_zero, List.set_cons_succ]
            refine wpL_store rfl (by rfl) 23 (.tmp 22) (.tmp 121) rfl g0 ld.toArray rfl rfl 23 (List.replicate 32 (V8 0)).toArray (fun wq hq => other_row hq (fun w hq => ⟨hq.1.1.2.1, hq.1.1.2.2⟩) (by omega)) ld_IR.out ld_S.out ld_O.out (Stable.below w13) (fun wq hq => below_setRow (row_below hq (fun w hq => hq.1.1.1) G11) G12 _) ?_
            try simp only [Act.put, List.setIfInBounds_toArray, List.set_cons_zero, List.set_cons_succ]
            refine wpL_val ?v209 rfl (by rfl) (fun wq hq => ?y209) ?z209
            case y209 => go_simp; with_reducible rfl
            try simp only [Act.put, List.setIfInBounds_toArray, List.set_cons_zero, List.set_cons_succ]
            refine wpL_nil ?_
            refine wpB_end (by kernel_rfl) ?_
            intro wt hwt
            have hfin := rows_fin hwt (fun w hq => hq.1.1.1) (fun w hq => ⟨hq.2.1, hq.2.2⟩) (by omega) G11 G12
            go_wp2_with fail
            go_meet
            case rel => exact ⟨g2, rfl, hfin.2, hfin.1⟩
          · simp only [opsOf, List.getElem?_cons_succ, List.getElem?_cons_zero, List.drop_succ_cons, List.drop_zero]
            refine wpL_new (fun g => .pointer (some ⟨g, 0, none⟩)) (.cells (List.replicate 32 (V8 0)).toArray 23) rfl (by rfl) (Stable.made (Stable.fresh (Stable.below w13) _ _) (stabDigs pS _)) (fun _ h => h.1.1) (fun wq hq => ?y212) (fun g2 hg2 => ?_)
            case y212 => exact run_al _ rfl 32 _ zero23
            try simp only [Act.put, List.setIfInBounds_toArray, List.set_cons_zero, List.set_cons_succ]
            have G11 : w13.heap.size ≤ g2 := by obtain ⟨wq, hq, rfl⟩ := hg2; exact hq.1.1.size
            have GN : g0 < g2 := by obtain ⟨wq, hq, rfl⟩ := hg2; exact hq.1.2.1
            refine wpL_nil ?_
            refine wpB_list [6] [6] 7 rfl (by kernel_rfl) ?_
            simp only [opsOf, List.getElem?_cons_succ, List.getElem?_cons_zero, List.drop_succ_cons, List.drop_zero]
            refine wpL_one ?v215 rfl (by rfl) (Stable.fresh (Stable.made (Stable.fresh (Stable.below w13) _ _) (stabDigs pS _)) _ _) (fun _ h => h.1.1.1) (fun wq hq => ?y215) ?z215
            case y215 => go_simp; exact hextR _ _ hq.1.2
            try simp only [Act.put, List.setIfInBounds_toArray, List.set_cons_zero, List.set_cons_succ]
            refine wpL_nil ?_
            refine wpB_list [] [7, 8, 9, 10] 3 rfl (by kernel_rfl) ?_
            simp only [opsOf, List.getElem?_cons_succ, List.getElem?_cons_zero, List.drop_succ_cons, List.drop_zero]
            refine wpL_val ?v218 rfl (by rfl) (fun wq hq => ?y218) ?z218
            case y218 => go_simp; with_reducible rfl
            try simp only [Act.put, List.setIfInBounds_toArray, List.set_cons_zero, List.set_cons_succ]
            refine wpL_val ?v219 rfl (by rfl) (fun wq hq => ?y219) ?z219
            case y219 => go_simp; with_reducible rfl
            try simp only [Act.put, List.setIfInBounds_toArray, List.set_cons_zero, List.set_cons_succ]
            refine wpL_val ?v220 rfl (by rfl) (fun wq hq => ?y220) ?z220
            case y220 => go_simp; with_reducible rfl
            try simp only [Act.put, List.setIfInBounds_toArray, List.set_cons_zero, List.set_cons_succ]
            refine wpL_val ?v221 rfl (by rfl) (fun wq hq => ?y221) ?z221
            case y221 => go_simp; with_reducible rfl
            try simp only [Act.put, List.setIfInBounds_toArray, List.set_cons_zero, List.set_cons_succ]
            refine wpL_nil ?_
            refine wpB_list [13, 14] [13, 14, 15] 0 rfl (by kernel_rfl) ?_
            simp only [opsOf, List.getElem?_cons_succ, List.getElem?_cons_zero, List.drop_succ_cons, List.drop_zero]
            refine wpL_store rfl (by rfl) 23 (.tmp 21) (.tmp 120) rfl g2 lc.toArray rfl rfl 23 (List.replicate 32 (V8 0)).toArray (fun wq hq => hq.2.2) lc_IR.out lc_S.out lc_O.out (Stable.below w13) (fun wq hq => below_setRow hq.1.1.1 G11 _) ?_
            try simp only [Act.put, List.setIfInBounds_toArray, List.set_cons_zero, List.set_cons_succ]
            refine wpL_store rfl (by rfl) 23 (.tmp 22) (.tmp 121) rfl g0 ld.toArray rfl rfl 23 (List.replicate 32 (V8 0)).toArray (fun wq hq => other_row hq (fun w hq => ⟨hq.1.1.2.1, hq.1.1.2.2⟩) (by omega)) ld_IR.out ld_S.out ld_O.out (Stable.below w13) (fun wq hq => below_setRow (row_below hq (fun w hq => hq.1.1.1) G11) G12 _) ?_
            try simp only [Act.put, List.setIfInBounds_toArray, List.set_cons_zero, List.set_cons_succ]
            refine wpL_val ?v224 rfl (by rfl) (fun wq hq => ?y224) ?z224
            case y224 => go_simp; with_reducible rfl
            try simp only [Act.put, List.setIfInBounds_toArray, List.set_cons_zero, List.set_cons_succ]
            refine wpL_nil ?_
            refine wpB_end (by kernel_rfl) ?_
            intro wt hwt
            have hfin := rows_fin hwt (fun w hq => hq.1.1.1) (fun w hq => ⟨hq.2.1, hq.2.2⟩) (by omega) G11 G12
            go_wp2_with fail
            go_meet
            case rel => exact ⟨g2, rfl, hfin.2, hfin.1⟩
        · simp only [opsOf, List.getElem?_cons_succ, List.getElem?_cons_zero, List.drop_succ_cons, List.drop_zero]
          refine wpL_new (fun g => .pointer (some ⟨g, 0, none⟩)) (.cells (List.replicate 32 (V8 0)).toArray 23) rfl (by rfl) (Stable.fresh (Stable.below w13) _ _) (fun _ h => h.1) (fun wq hq => ?y227) (fun g1 hg1 => ?_)
          case y227 => exact run_al _ rfl 32 _ zero23
          try simp only [Act.put, List.setIfInBounds_toArray, List.set_cons_zero, List.set_cons_succ]
          have G11 : w13.heap.size ≤ g1 := by obtain ⟨wq, hq, rfl⟩ := hg1; exact hq.1.size
          have GN : g0 < g1 := by obtain ⟨wq, hq, rfl⟩ := hg1; exact hq.2.1
          refine wpL_nil ?_
          refine wpB_list [5] [5] 8 rfl (by kernel_rfl) ?_
          simp only [opsOf, List.getElem?_cons_succ, List.getElem?_cons_zero, List.drop_succ_cons, List.drop_zero]
          refine wpL_made (fun v => ∃ a c, v = .slice a pS.length c) (fun v w => Digs w v pS) rfl (by rfl) (Stable.fresh (Stable.fresh (Stable.below w13) _ _) _ _) (fun _ h => h.1.1) (stabDigs pS) (fun wq hq => ?y230) ?_
          case y230 => unfold genAt; go_simp; refine (hback _ _ (HE13.out.dp.below hq.1.1 (Nat.le_refl _))).mono ?_; rintro e wz ⟨⟨vz, rfl, hV⟩, hb⟩; exact ⟨vz, rfl, hV.shape, hV, hb⟩
          intro v5 hv5; obtain ⟨a5, c5, rfl⟩ := hv5
          try simp only [Act.put, List.setIfInBounds_toArray, List.set_cons_zero, List.set_cons_succ]
          refine wpL_nil ?_
          refine wpB_list [6] [6] 7 rfl (by kernel_rfl) ?_
          simp only [opsOf, List.getElem?_cons_succ, List.getElem?_cons_zero, List.drop_succ_cons, List.drop_zero]
          refine wpL_one ?v233 rfl (by rfl) (Stable.made (Stable.fresh (Stable.fresh (Stable.below w13) _ _) _ _) (stabDigs pS _)) (fun _ h => h.1.1.1) (fun wq hq => ?y233) ?z233
          case y233 => go_simp; exact hextR _ _ hq.2
          try simp only [Act.put, List.setIfInBounds_toArray, List.set_cons_zero, List.set_cons_succ]
          refine wpL_nil ?_
          refine wpB_list [] [7, 8, 9, 10] 3 rfl (by kernel_rfl) ?_
          simp only [opsOf, List.getElem?_cons_succ, List.getElem?_cons_zero, List.drop_succ_cons, List.drop_zero]
          refine wpL_val ?v236 rfl (by rfl) (fun wq hq => ?y236) ?z236
          case y236 => go_simp; with_reducible rfl
          try simp only [Act.put, List.setIfInBounds_toArray, List.set_cons_zero, List.set_cons_succ]
          refine wpL_val ?v237 rfl (by rfl) (fun wq hq => ?y237) ?z237
          case y237 => go_simp; with_reducible rfl
          try simp only [Act.put, List.setIfInBounds_toArray, List.set_cons_zero, List.set_cons_succ]
          refine wpL_val ?v238 rfl (by rfl) (fun wq hq => ?y238) ?z238
          case y238 => go_simp; with_reducible rfl
          try simp only [Act.put, List.setIfInBounds_toArray, List.set_cons_zero, List.set_cons_succ]
          refine wpL_val ?v239 rfl (by rfl) (fun wq hq => ?y239) ?z239
          case y239 => go_simp; with_reducible rfl
          try simp only [Act.put, List.setIfInBounds_toArray, List.set_cons_zero, List.set_cons_succ]
          refine wpL_nil ?_
          refine wpB_list [13, 14] [13, 14, 15] 0 rfl (by kernel_rfl) ?_
          simp only [opsOf, List.getElem?_cons_succ, List.getElem?_cons_zero, List.drop_succ_cons, List.drop_zero]
          refine wpL_store rfl (by rfl) 23 (.tmp 21) (.tmp 120) rfl g1 lc.toArray rfl rfl 23 (List.replicate 32 (V8 0)).toArray (fun wq hq => hq.1.2.2) lc_IR.out lc_S.out lc_O.out (Stable.below w13) (fun wq hq => below_setRow hq.1.1.1 G11 _) ?_
          try simp only [Act.put, List.setIfInBounds_toArray, List.set_cons_zero, List.set_cons_succ]
          refine wpL_store rfl (by rfl) 23 (.tmp 22) (.tmp 121) rfl g0 ld.toArray rfl rfl 23 (List.replicate 32 (V8 0)).toArray (fun wq hq => other_row hq (fun w hq => ⟨hq.1.1.2.1, hq.1.1.2.2⟩) (by omega)) ld_IR.out ld_S.out ld_O.out (Stable.below w13) (fun wq hq => below_setRow (row_below hq (fun w hq => hq.1.1.1) G11) G12 _) ?_
          try simp only [Act.put, List.setIfInBounds_toArray, List.set_cons_zero, List.set_cons_succ]
          refine wpL_val ?v242 rfl (by rfl) (fun wq hq => ?y242) ?z242
          case y242 => go_simp; with_reducible rfl
          try simp only [Act.put, List.setIfInBounds_toArray, List.set_cons_zero, List.set_cons_succ]
          refine wpL_nil ?_
          refine wpB_end (by kernel_rfl) ?_
          intro wt hwt
          have hfin := rows_fin hwt (fun w hq => hq.1.1.1) (fun w hq => ⟨hq.1.2.1, hq.1.2.2⟩) (by omega) G11 G12
          go_wp2_with fail
          go_meet
          case rel => exact ⟨g1, rfl, hfin.2, hfin.1⟩
    case rest =>
      obtain ⟨b21, rfl, hA21, hB14⟩ := hcut
      have HE14 := Lib.hid ((HE13.out.below hB14).add hA21)
      have A15 := HE14.out.row (b14 + 1) 24 lz (by simp)
      have A18 := HE14.out.row b18 24 lc (by simp)
      have A21 := HE14.out.row b21 23 lc (by simp)
      have hbr : Dv top = .agg lz.toArray := by rw [← hbd]; exact HLZ.out
      have hrootL2 := hrootL
      rw [hbr] at hrootL2
      have HBR := Lib.hid hbr
      clear hA21 hB14 A17 HE13 hbr hrootL hback hextR
      go_upto_region 19 with (fail)
      refine wp_region_class 9 [] [0, 1, 2, 3, 4, 5, 6, 7, 8] (Below wc.heap.size wc) (Stable.below wc) (Below.refl _ _).drew (by kernel_rfl) (by kernel_rfl) ?_
      simp only [opsOf, List.getElem?_cons_succ, List.getElem?_cons_zero, List.drop_succ_cons, List.drop_zero]
      refine wpL_val (.agg lz.toArray) rfl (by rfl) (fun wq hq => quiet_ld 24 _ rfl _ _ rfl lz _ (range_below A15.range hq A15.lt) hu.out rfl lz_L.out) ?_
      try simp only [Act.put, List.setIfInBounds_toArray, List.set_cons_zero, List.set_cons_succ]
      refine wpL_val ?v247 rfl (by rfl) (fun wq hq => ?y247) ?z247
      case y247 => go_simp; with_reducible rfl
      try simp only [Act.put, List.setIfInBounds_toArray, List.set_cons_zero, List.set_cons_succ]
      refine wpL_val ?v248 rfl (by rfl) (fun wq hq => ?y248) ?z248
      case y248 => go_simp; exact hrootL2 _ _ (HE14.out.dl.below hq (Nat.le_refl _))
      try simp only [Act.put, List.setIfInBounds_toArray, List.set_cons_zero, List.set_cons_succ]
      refine wpL_val (.bool true) rfl (by rfl) (fun wq hq => quiet_eql 23 _ _ _ rfl _ _ rfl rfl guardR true ((eqlR top top hrl hrl _ _ HBR.out HBR.out wq).trans (by rw [decide_eq_true rfl]))) ?_
      try simp only [Act.put, List.setIfInBounds_toArray, List.set_cons_zero, List.set_cons_succ]
      refine wpL_val ?v250 rfl (by rfl) (fun wq hq => ?y250) ?z250
      case y250 => go_simp; with_reducible rfl
      try simp only [Act.put, List.setIfInBounds_toArray, List.set_cons_zero, List.set_cons_succ]
      refine wpL_val (.agg lc.toArray) rfl (by rfl) (fun wq hq => quiet_ld 24 _ rfl _ _ rfl lc _ (range_below A18.range hq A18.lt) hu.out rfl lc_L.out) ?_
      try simp only [Act.put, List.setIfInBounds_toArray, List.set_cons_zero, List.set_cons_succ]
      refine wpL_val (.agg lc.toArray) rfl (by rfl) (fun wq hq => quiet_ld 23 _ rfl _ _ rfl lc _ (range_below A21.range hq A21.lt) huR.out rfl lc_LR.out) ?_
      try simp only [Act.put, List.setIfInBounds_toArray, List.set_cons_zero, List.set_cons_succ]
      refine wpL_val (.bool true) rfl (by rfl) (fun wq hq => quiet_eql 23 _ _ _ rfl _ _ rfl rfl guardR true ((eqlR c c hcl hcl _ _ HLC.out HLC.out wq).trans (by rw [decide_eq_true rfl]))) ?_
      try simp only [Act.put, List.setIfInBounds_toArray, List.set_cons_zero, List.set_cons_succ]
      refine wpL_val ?v254 rfl (by rfl) (fun wq hq => ?y254) ?z254
      case y254 => go_simp; with_reducible rfl
      try simp only [Act.put, List.setIfInBounds_toArray, List.set_cons_zero, List.set_cons_succ]
      refine wpL_nil ?_
      intro wz hwz
      go_wp2_with fail
      go_ret
      exact ⟨rfl, (HE14.out.below hwz).bw⟩
end Go.Proofs.YteehpfccegnjjaaDoor
