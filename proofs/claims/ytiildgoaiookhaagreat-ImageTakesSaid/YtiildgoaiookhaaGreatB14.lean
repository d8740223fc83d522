/- Words and walks that the last text of this claim stands on: OwnG, RefT, RefP, TlvA, ImS. No condition. -/
import Derived.Test.YtiildgoaiookhaaGreatB10
import Derived.Test.YtiildgoaiookhaaGreatB03
import Derived.Test.YtiildgoaiookhaaGreatB09
/- Rows of the call's own beside one that grows. -/
namespace Go.Proofs.YtiildgoaiookhaaGreat
open Go.RowKit

theorem own_grown {w w' : World} {base : Nat} {e : TypeId} {size n : Nat} {v : Value} {xs : List Value} {row : Option Nat} (h : w.ownsRow base e size v n xs) (hg : w.grownBy w' row) (hr : v.ownBlock = none ∨ v.ownBlock ≠ row) : w'.ownsRow base e size v n xs := by
  refine ⟨h.1, ?_⟩
  rcases h.2 with hn | ⟨g, cap, cur, rfl, hb, hgg, rest⟩
  · exact .inl hn
  · refine .inr ⟨g, cap, cur, rfl, hb, ?_, rest⟩
    rw [hg.block g (Array.getElem?_eq_some_iff.1 hgg).1 (by rcases hr with hr | hr <;> simp [Value.ownBlock] at hr ⊢; exact hr)]
    exact hgg
theorem OwnF.ext {w w' : World} {B : Nat} {f : FV} (h : OwnF w B f) (he : Ext w w') : OwnF w' B f := ⟨own_ext h.1 he, h.2⟩
theorem OwnF.to {w : World} {B B' : Nat} {f : FV} (h : OwnF w B f) (hB : B' ≤ B) : OwnF w B' f := ⟨own_base h.1 hB, h.2⟩
theorem OwnF.grown {w w' : World} {B B' : Nat} {f : FV} {v : Value} {n : Nat} {xs : List Value} (h : OwnF w B f) (hv : w.ownsRow B' 54 4 v n xs) (hg : w.grownBy w' v.ownBlock) : OwnF w' B f :=
  ⟨own_grown h.1 hg (own_apart h.1 hv (by decide)), h.2⟩
/-- a row of fields that are the call's own, as well as their bytes -/
structure OwnR (w : World) (B : Nat) (v : Value) (d : List FV) : Prop where
  row : w.ownsRow B 54 4 v d.length (rowOf d)
  own : ∀ f ∈ d, OwnF w B f
theorem OwnR.ext {w w' : World} {B : Nat} {v : Value} {d : List FV} (h : OwnR w B v d) (he : Ext w w') : OwnR w' B v d := ⟨own_ext h.row he, fun f hf => (h.own f hf).ext he⟩
theorem OwnR.to {w : World} {B B' : Nat} {v : Value} {d : List FV} (h : OwnR w B v d) (hB : B' ≤ B) : OwnR w B' v d := ⟨own_base h.row hB, fun f hf => (h.own f hf).to hB⟩
/-- a field more -/
theorem OwnR.app {w w' : World} {B : Nat} {v v' : Value} {d : List FV} {f : FV} (h : OwnR w B v d) (hf : OwnF w B f) (hg : w.grownBy w' v.ownBlock) (hown : w'.ownsRow B 54 4 v' (d.length + 1) (rowOf d ++ f.cells)) : OwnR w' B v' (d ++ [f]) := by
  refine ⟨own_to hown (Nat.le_refl _) (by simp) (by rw [rowOf_append, rowOf_one]), fun g hg' => ?_⟩
  rcases List.mem_append.1 hg' with hg' | hg'
  · exact (h.own g hg').grown h.row hg
  · simp only [List.mem_singleton] at hg'
    subst hg'; exact hf.grown h.row hg
theorem OwnR.fs {w : World} {B : Nat} {A : Option Addr} {n c : Nat} {d : List FV} (h : OwnR w B (.slice A n c) d) (hn : n = d.length) : Fs w A n d := by
  subst hn; exact Fs.of_own h.row fun f hf => (h.own f hf).ok
theorem OwnF.set {w : World} {B : Nat} {f : FV} (h : OwnF w B f) {p : Addr} (hp : p.block < B) (u : Value) : OwnF (w.setCell p u) B f := ⟨own_set h.1 hp u, h.2⟩
theorem OwnR.set {w : World} {B : Nat} {v : Value} {d : List FV} (h : OwnR w B v d) {p : Addr} (hp : p.block < B) (u : Value) : OwnR (w.setCell p u) B v d := ⟨own_set h.row hp u, fun f hf => (h.own f hf).set hp u⟩
end Go.Proofs.YtiildgoaiookhaaGreat

/- The walk of coracleref03.Take. -/
namespace Go.Proofs.YtiildgoaiookhaaGreat
open Go.RowKit

theorem take_more {num wire n : Nat} {b : List UInt8} (hm : TagMay num wire) (hn : U64 n) (hb : b.length ≤ 16384) (R : List UInt8) :
    ∃ s k : Nat, ttake (fput num wire n b ++ R) = (num, wire, s, 0) ∧ vtake ((fput num wire n b ++ R).drop s) = (if wire = 0 then n else b.length, k, 0) ∧ s + k ≤ (fput num wire n b).length ∧
      (wire ≠ 0 → (fput num wire n b).length = s + k + b.length ∧ ((fput num wire n b ++ R).drop (s + k)).take b.length = b) := by
  unfold fput
  by_cases hw : wire = 0
  · rw [if_pos hw, if_pos hw]
    refine ⟨(vput (8 * num + wire)).length, (vput n).length, ?_, ?_, ?_, fun h => absurd hw h⟩
    · rw [List.append_assoc]; exact ttake_put hm _
    · rw [List.append_assoc, List.drop_left]; exact vtake_put hn R
    · rw [List.length_append]; omega
  · rw [if_neg hw, if_neg hw]
    refine ⟨(vput (8 * num + wire)).length, (vput b.length).length, ?_, ?_, ?_, fun _ => ⟨?_, ?_⟩⟩
    · rw [List.append_assoc]; exact ttake_put hm _
    · rw [List.append_assoc, List.drop_left, List.append_assoc]; exact vtake_put (by unfold U64; omega) _
    · rw [List.length_append, List.length_append]; omega
    · rw [List.length_append, List.length_append]; omega
    · rw [← List.append_assoc, List.append_assoc, List.drop_left' (by simp), List.take_left]

set_option maxRecDepth 100000 in
set_option maxHeartbeats 3200000 in
theorem ref03_Take (A : Option Addr) (n c : Nat) (l : List UInt8) (w : World) (hb : Bs w A n l) (hn : n ≤ 16384) (hnc : n ≤ c) :
    Calls Tryz.prog 48 #[.slice A n c] w fun e w' => ∃ v ms, e = .returned (.tuple #[v, .int .i64 (trow none l).2]) ∧ w'.ownsRow w.heap.size 54 4 v ms.length (rowOf ms) ∧ (∀ f ∈ ms, OwnF w' w.heap.size f) ∧ ms.map FV.s = (trow none l).1.map FV.s ∧ Ext w w' := by
  have hlen := hb.len
  have hn1 : ((16384 : Int) < n) = False := by simp; omega
  have hn2 : ¬ ((16384 : Int) < n) := by omega
  have hE := own_empty w 54 4
  go_enter Tryz.func48, Tryz.ntmps48
  go_wp2_with fail
  clear hn1 hn2
  go_loopw [0, 4] (fun bs o wr => ∃ (at_ : Nat) (pre ms : List FV) (Ab : Option Addr) (cb : Nat) (A1 : Option Addr) (c1 : Nat), bs = .slice Ab (n - at_) cb ∧ at_ ≤ n ∧ n - at_ ≤ cb ∧ Bs w Ab (n - at_) (l.drop at_) ∧ o = .slice A1 ms.length c1 ∧ wr.ownsRow w.heap.size 54 4 (.slice A1 ms.length c1) ms.length (rowOf ms) ∧
      (∀ f ∈ ms, OwnF wr w.heap.size f) ∧ ms.map FV.s = pre.map FV.s ∧ trow none l = tjoin pre (trow pre.getLast? (l.drop at_)) ∧ ms.length ≤ at_ ∧ Ext w wr) (fun bs _ _ => match bs with | .slice _ k _ => k | _ => 0)
  case atStart =>
    exact ⟨0, [], [], A, c, _, _, rfl, by omega, hnc, by simpa using hb, rfl, hE, by simp, rfl, (tjoin_nil none l).symm, by simp, (Ext.refl w).alloc _⟩
  case round =>
    clear hE
    obtain ⟨at_, pre, ms, Ab, cb, A1, c1, rfl, hat, hcb, hbw, rfl, hown, hof, hs, htr, hml, hx⟩ := hrel
    have hbs := hbw.ext hx
    have HO := Lib.hid hof; clear hof
    have HS := Lib.hid hs; clear hs
    by_cases hjn : at_ < n
    · have hne : l.drop at_ ≠ [] := by
        intro h
        have := congrArg List.length h
        rw [List.length_drop] at this
        simp at this; omega
      have hpos : 0 < n - at_ := by omega
      have hposI : (0 : Int) < (n - at_ : Nat) := by omega
      have hK : n - at_ ≤ 16384 := by omega
      have hlK := hbs.len
      have C1 := Lib.hid (ref02_Skip Ab (n - at_) cb (l.drop at_) wr hbs (by omega) hcb)
      have C2 := Lib.hid (fun (w' : World) (h : Ext wr w') => ref02_Take Ab (n - at_) cb (l.drop at_) w' (hbs.ext h) (by omega) hcb)
      rcases hsk : tskip (l.drop at_) with ⟨size, er⟩
      rw [hsk] at C1
      by_cases her : er ≠ 0
      · have hfin : trow none l = ([], er) := by rw [htr, trow_bad hne her (by rw [hsk])]; simp [tjoin, her]
        have HF := Lib.hid hfin
        have her' : ((er : Int) != 0) = true := bne_t (by omega)
        clear hfin htr hsk hb hbs hne C2
        unfold sq at C1
        go_wp2_with fail
        refine C1.out.mono ?_
        rintro e w1 ⟨rfl, x1⟩
        go_wp2
        go_ret2
        exact ⟨_, [], by rw [HF.out]; rfl, World.ownsRow_nil _ _ _ _, by simp, by rw [HF.out], hx.trans x1⟩
      · obtain rfl : er = 0 := by omega
        obtain ⟨num, wire, fn, bb, q1, q2, q3, q4, q5, q6, q7, q8, q9⟩ := tskip_sound hsk
        have hsz : size ≤ n - at_ := by rw [← hlK]; exact q8
        have hsp : l.drop at_ = fput num wire fn bb ++ (l.drop at_).drop size := by rw [← q6, List.take_append_drop]
        obtain ⟨s, k, r1, r2, r3, r4⟩ := take_more q1 q2 q3 ((l.drop at_).drop size)
        rw [← hsp] at r1 r2 r4
        rw [← q7] at r3 r4
        have C2' : Hid (∀ (w' : World), Ext wr w' → Calls Tryz.prog 79 #[.slice Ab (n - at_) cb] w' fun e w'' => e = tq (num, wire, s, 0) ∧ Ext w' w'') := Lib.hid (fun w' h => by have := C2.out w' h; rw [r1] at this; exact this)
        obtain ⟨A3, c3, hc3, hsl3, hb3⟩ := cut_bytes (P := Tryz.prog) bytesT Ab (show s ≤ n - at_ by omega) hcb (s : Int) rfl
        have C3 : Hid (∀ (w' : World), Ext wr w' → Calls Tryz.prog 80 #[.slice A3 (n - at_ - s) c3] w' fun e w'' => e = .returned (.tuple #[.int .u64 (if wire = 0 then fn else bb.length : Nat), .int .i64 k, .int .i64 (0 : Nat)]) ∧ Ext w' w'') := Lib.hid (fun w' h => by
          have := ref01_Take A3 (n - at_ - s) c3 ((l.drop at_).drop s) w' (hb3 _ _ (hbs.ext h)) (by omega) hc3
          rw [r2] at this; exact this)
        obtain ⟨A5, c5, hc5, hsl5, hb5⟩ := cut_bytes (P := Tryz.prog) bytesT Ab hsz hcb (size : Int) rfl
        have hfld : tfield ((l.drop at_).take size) = tfv num wire fn bb := by rw [q6]; exact tfield_put q1 q2 q3 q4 q5
        have HFld := Lib.hid hfld
        have HTr := Lib.hid htr
        have HNe := Lib.hid hne
        have HSk := Lib.hid hsk
        have hszw := hx.size
        have Q6 := Lib.hid q6
        have Q7 := Lib.hid q7
        have R4 := Lib.hid r4
        have Q4 := Lib.hid q4
        have Q5 := Lib.hid q5
        clear hfld htr hne hsk hb C2 hsp r1 r2 her q6 q7 r4 q4 q5 q8
        unfold sq at C1
        go_wp2_with fail
        refine C1.out.mono ?_
        rintro e w1 ⟨rfl, x1⟩
        unfold tq at C2'
        go_wp2_with fail
        refine (C2'.out _ x1).mono ?_
        rintro e w2 ⟨rfl, x2⟩
        dsimp only
        go_wp2_with fail
        refine (C3.out _ ((x1.trans x2).alloc _)).mono ?_
        rintro e w3 ⟨rfl, x3⟩
        have hB3 := (Blk.new w2 54 [.int .i64 num, .int .i64 wire, .int .u64 0, .slice none 0 0]).ext x3
        have x13 := ((x1.trans x2).alloc (.cells #[.int .i64 num, .int .i64 wire, .int .u64 0, .slice none 0 0] 54)).trans x3
        have hg : wr.heap.size ≤ w2.heap.size := (x1.trans x2).size
        have e0 := hB3.cell 0
        have e1 := hB3.cell 1
        have e2 := hB3.cell 2
        have e3 := hB3.cell 3
        have f2 := hB3.frozen 2
        have f3 := hB3.frozen 3
        have hlt3 := hB3.lt
        simp only [List.getElem?_cons_zero, List.getElem?_cons_succ] at e0 e1 e2 e3
        have X13 := Lib.hid x13
        clear C3 C2' C1
        go_upto_if 49 with fail
        go_cut [11] (fun s11 wx => s11 = .pointer (some ⟨w2.heap.size, 0, none⟩) ∧ ∃ fA fcap, Blk wx w2.heap.size 54 [.int .i64 num, .int .i64 wire, .int .u64 fn, .slice fA bb.length fcap] ∧ OwnF wx w.heap.size ⟨num, wire, fn, fA, bb.length, fcap, bb⟩ ∧ Ext wr wx)
        case first =>
          by_cases hw : wire = 0
          · subst hw
            have hbb := Q4.out rfl
            subst hbb
            rw [if_pos rfl]
            go_wp2_with fail
            go_meet
            refine ⟨rfl, none, 0, ?_, ?_, ?_⟩
            · exact hB3.set_ 2 _
            · exact ⟨World.ownsRow_nil _ _ _ _, q2⟩
            · exact X13.out.setCell hg _
          · have hw2 : wire = 2 := by rcases q1.2.2 with h | h; exact absurd h hw; exact h
            subst hw2
            have hfn := Q5.out rfl
            subst hfn
            rw [if_neg (by omega)]
            have hsz2 := (R4.out (by omega)).1
            obtain ⟨A6, c6, hc6, hsl6, hb6⟩ := cut_bytes2 (P := Tryz.prog) bytesT Ab (show s + k ≤ size by omega) hsz hcb ((s : Int) + (k : Int)) (size : Int) (by omega) rfl
            have hwr : IntKind.i64.wrap ((s : Int) + (k : Int)) = (s : Int) + (k : Int) := IntWalk.i64_in _ (by omega)
            have b6 := hb6 _ _ (hbs.ext X13.out)
            have hml : size - (s + k) = bb.length := by omega
            rw [hml] at b6 hsl6
            rw [(R4.out (by omega)).2] at b6
            have hemp := own_empty w3 5 1
            have hw3 := (hx.trans X13.out).size
            clear hsz2 hml hc6 hb6
            go_wp2_with (at_builtin; refine wpList_app bytesT (by omega) _ rfl rfl rfl hemp rfl (Rd.alloc b6 _) (bvs_one _) (by unfold maxLen; omega) (by omega) (by simp) ?_; intro v4 w4 hown4 hg4 hat4; have x4 : Ext w3 w4 := Below.app ((Ext.refl w3).alloc _) hg4 (by simp) hemp (Nat.le_refl _); simp only [List.nil_append, Nat.zero_add] at hown4; clear hg4 hat4; obtain ⟨A4, c4, rfl, hc4⟩ := own_form hown4; have hB4 := hB3.ext x4; have g0 := hB4.cell 0; have g1 := hB4.cell 1; have g2 := hB4.cell 2; have g3 := hB4.cell 3; have f3' := hB4.frozen 3; simp only [List.getElem?_cons_zero, List.getElem?_cons_succ] at g0 g1 g2 g3)
            go_meet
            refine ⟨rfl, A4, c4, ?_, ?_, ?_⟩
            · exact hB4.set_ 3 _
            · exact ⟨own_base (own_set hown4 hlt3 _) hw3, q2⟩
            · exact (X13.out.trans x4).setCell hg _
        case rest =>
          obtain ⟨rfl, fA, fcap, hBc, hofc, xc⟩ := hcut
          obtain ⟨W1, rfl⟩ : ∃ W1 : World, W1 = wc := ⟨_, rfl⟩
          generalize (if wire = 0 then fn else bb.length) = n12
          have d0 := hBc.cell 0
          have d1 := hBc.cell 1
          have d2 := hBc.cell 2
          have d3 := hBc.cell 3
          simp only [List.getElem?_cons_zero, List.getElem?_cons_succ] at d0 d1 d2 d3
          have hownc := own_ext hown xc
          have HOFc := Lib.hid hofc
          have HOwn := Lib.hid (fun f hf => own_ext (HO.out f hf).1 xc)
          have xw := hx.trans xc
          have hswc := xw.size
          have hblt := hBc.lt
          have Hbs5 := Lib.hid (hb5 w _ hbw)
          clear hofc hb3 hb5 hsl3 e0 e1 e2 e3 f2 f3 hlt3 x1 x2 x3 X13 hB3 hbs Q6 Q7 R4 Q4 Q5 hpos hposI
          generalize hfb : fallsB ms.getLast? ⟨num, wire, fn, fA, bb.length, fcap, bb⟩ = fb
          have hfe : fallsB pre.getLast? (tfield ((l.drop at_).take size)) = fb := by
            rw [HFld.out, ← hfb]
            exact (s_falls (p := ms.getLast?) (q := pre.getLast?) (f := ⟨num, wire, fn, fA, bb.length, fcap, bb⟩) (g := tfv num wire fn bb) (by rw [← List.getLast?_map, ← List.getLast?_map, HS.out]) rfl).symm
          have Hfb := Lib.hid hfb
          have Hfe := Lib.hid hfe
          clear hfb hfe
          go_upto_region 14 with fail
          go_cut [73] (fun s73 wx => s73 = .bool fb ∧ Ext W1 wx)
          case first =>
            have hml' := hml
            by_cases hem : ms.length = 0
            · have hnil : ms = [] := List.eq_nil_of_length_eq_zero hem
              subst hnil
              have hfb : fb = false := by rw [← Hfb.out]; rfl
              subst hfb
              clear Hfb Hfe HS HOwn hownc hown HOFc HO
              go_region
              go_wp2_with fail
              go_meet
              exact ⟨rfl, (Ext.refl W1).drew⟩
            · obtain ⟨i, hi⟩ : ∃ i, ms.length = i + 1 := ⟨ms.length - 1, by omega⟩
              have hfs : Fs W1 A1 ms.length ms := ⟨Rd.of_own hownc, fun f hf => (show OwnF _ _ f from ⟨HOwn.out f hf, (HO.out f hf).2⟩).ok⟩
              have hg : ms[i]? = some (ms[i]'(by omega)) := List.getElem?_eq_getElem _
              have hla : ms.getLast? = some (ms[i]'(by omega)) := by rw [List.getLast?_eq_getElem?]; exact (congrArg (fun k => ms[k]?) (show ms.length - 1 = i by omega)).trans hg
              obtain ⟨b, off, rfl, p0, p1, p2, p3⟩ := hfs.at_ (show i < ms.length by omega)
              have hfb : (!risesB (ms[i]'(by omega)) ⟨num, wire, fn, fA, bb.length, fcap, bb⟩) = fb := by rw [← Hfb.out, hla]; rfl
              generalize ms[i]'(by omega) = g at *
              have HR := Lib.hid (fun w => ref03_falls g ⟨num, wire, fn, fA, bb.length, fcap, bb⟩ w)
              rw [hfb] at HR
              obtain ⟨gnum, gwire, gn, gA, glen, gcap, gb⟩ := g
              unfold FV.val at HR
              dsimp only at HR p0 p1 p2 p3
              clear Hfb Hfe HS HOwn hownc hown HOFc HO hfs hg hla hfb HTr HNe HSk HFld
              rw [hi]
              have hw1 : IntKind.i64.wrap (i : Int) = i := IntWalk.i64_in _ (by omega)
              have hw2 : IntKind.i64.wrap ((i : Int) + 1) = (i : Int) + 1 := IntWalk.i64_in _ (by omega)
              have hii : (i : Int) < (i : Int) + 1 := by omega
              have hi0 : (0 : Int) ≤ i := by omega
              have hgt : decide ((0 : Int) < (i : Int) + 1) = true := dec_t (by omega)
              rcases fb with _ | _
              all_goals
                go_region_held3 (fun w' => w'.cell? ⟨b, off + i * 4, none⟩ = some (.int .i64 gnum) ∧ w'.cell? ⟨b, off + i * 4 + 1, none⟩ = some (.int .i64 gwire) ∧ w'.cell? ⟨b, off + i * 4 + 2, none⟩ = some (.int .u64 gn) ∧ w'.cell? ⟨b, off + i * 4 + 3, none⟩ = some (.slice gA glen gcap) ∧
                    w'.cell? ⟨w2.heap.size, 0, none⟩ = some (.int .i64 num) ∧ w'.cell? ⟨w2.heap.size, 1, none⟩ = some (.int .i64 wire) ∧ w'.cell? ⟨w2.heap.size, 2, none⟩ = some (.int .u64 fn) ∧ w'.cell? ⟨w2.heap.size, 3, none⟩ = some (.slice fA bb.length fcap))
                  (first
                    | go_keep
                    | (exact ⟨y2.cell p0, y2.cell p1, y2.cell p2, y2.cell p3, y2.cell d0, y2.cell d1, y2.cell d2, y2.cell d3⟩))
                  (first
                    | (go_at_call 81; refine (HR.out _).mono ?_; rintro e w4 ⟨rfl, y2⟩))
                go_wp2_with fail
                rw [← hi]
                go_meet
                exact ⟨rfl, (Ext.refl W1).drew.trans y2⟩
          case rest =>
            obtain ⟨rfl, xz⟩ := hcut
            have hbl4 := hBc.ext xz
            have g0 := hbl4.cell 0
            have g1 := hbl4.cell 1
            have g2 := hbl4.cell 2
            have g3 := hbl4.cell 3
            simp only [List.getElem?_cons_zero, List.getElem?_cons_succ] at g0 g1 g2 g3
            have hK4 := (own_ext hownc xz).alloc (.cells #[.int .i64 num, .int .i64 wire, .int .u64 fn, .slice fA bb.length fcap] 54)
            have xwz := xw.trans xz
            have hz4 := xwz.size
            have hml2 : ms.length ≤ 16384 := by omega
            clear hBc d0 d1 d2 d3 hown hownc
            rcases fb with _ | _
            · have Hnx := Lib.hid (HTr.out.trans (congrArg (tjoin pre) (trow_next HNe.out q9 HSk.out Hfe.out)))
              clear HTr HNe HSk Hfe Hfb
              go_wp2_with (at_builtin; refine wpList_app fieldsT (by omega) _ rfl rfl rfl hK4 rfl (rd_at4 _ (.int .i64 num) (.int .i64 wire) (.int .u64 fn) (.slice fA bb.length fcap) _ _ (by simp)) (fcells_one _ _ _ _ _ _) (by unfold maxLen; omega) (by omega) (by simp; omega) ?_; intro v5 w5 hown5 hg5' hat5; clear hat5; obtain ⟨A6, c6, rfl, _⟩ := own_form hown5; have hg5 : World.grownBy (wc.alloc (.cells #[.int .i64 num, .int .i64 wire, .int .u64 fn, .slice fA bb.length fcap] 54)) w5 (Value.slice A1 ms.length c1).ownBlock := hg5'; clear hg5')
              go_roundw
              case rel =>
                refine ⟨at_ + size, pre ++ [tfield ((l.drop at_).take size)], ms ++ [⟨num, wire, fn, fA, bb.length, fcap, bb⟩], A5, c5, A6, c6, ?_, by omega, ?_, ?_, ?_, ?_, ?_, ?_, ?_, ?_, ?_⟩
                · rw [show n - (at_ + size) = n - at_ - size by omega]
                · omega
                · rw [show n - (at_ + size) = n - at_ - size by omega, ← List.drop_drop]
                  exact Hbs5.out
                · rw [List.length_append, List.length_singleton]
                · rw [List.length_append, List.length_singleton]
                  exact own_to hown5 (Nat.le_refl _) rfl (by rw [rowOf_append, rowOf_one]; rfl)
                · intro f hf
                  rcases List.mem_append.1 hf with hf | hf
                  · have h1 := (own_ext (HOwn.out f hf) xz).alloc (.cells #[.int .i64 num, .int .i64 wire, .int .u64 fn, .slice fA bb.length fcap] 54)
                    exact ⟨h1.kept hg5 (own_apart h1 hK4 (by decide)), (HO.out f hf).2⟩
                  · simp only [List.mem_singleton] at hf
                    subst hf
                    have h1 := (own_ext HOFc.out.1 xz).alloc (.cells #[.int .i64 num, .int .i64 wire, .int .u64 fn, .slice fA bb.length fcap] 54)
                    exact ⟨h1.kept hg5 (own_apart h1 hK4 (by decide)), HOFc.out.2⟩
                · rw [List.map_append, List.map_append, HS.out, HFld.out, List.map_singleton, List.map_singleton]; rfl
                · have h := Hnx.out
                  rw [tjoin_join, List.drop_drop] at h
                  rw [List.getLast?_concat]
                  exact h
                · rw [List.length_append, List.length_singleton]; omega
                · exact Below.app (xwz.alloc _) hg5 (by simp; omega) hK4 (Nat.le_refl _)
              case measure => simp; omega
            · have Hnx := Lib.hid (HTr.out.trans (congrArg (tjoin pre) (trow_falls HNe.out q9 HSk.out Hfe.out)))
              clear HTr HNe HSk Hfe Hfb
              go_wp2
              go_ret2
              exact ⟨_, [], by rw [Hnx.out]; rfl, World.ownsRow_nil _ _ _ _, by simp, by rw [Hnx.out]; rfl, xwz⟩
    · obtain rfl : n = at_ := by omega
      have htr2 := htr
      rw [List.drop_of_length_le (by omega), trow_nil] at htr2
      unfold tjoin at htr2
      simp at htr2
      have HT := Lib.hid htr2
      clear htr htr2
      go_wp2
      go_ret2
      exact ⟨_, ms, by rw [HT.out]; rfl, hown, HO.out, by rw [HT.out]; exact HS.out, hx⟩
end Go.Proofs.YtiildgoaiookhaaGreat

/- The walks of coracleref03.Put and coracleref03.Split. -/
namespace Go.Proofs.YtiildgoaiookhaaGreat
open Go.RowKit

set_option maxRecDepth 100000 in
set_option maxHeartbeats 800000 in
theorem ref03_Put_no (A : Option Addr) (n c : Nat) (l : List FV) (w : World) (hf : Fs w A n l) (hn : n ≤ 20000) (hno : fmay l ≠ 0) :
    Calls Tryz.prog 55 #[.slice A n c] w fun e w' => e = .returned (.tuple #[.slice none 0 0, .int .i64 (fmay l)]) ∧ Ext w w' := by
  have hb := bne_t (show ((fmay l : Nat) : Int) ≠ 0 by omega)
  have HM := Lib.hid (ref03_May A n c l w hf hn)
  generalize fmay l = E at *
  clear hno hf
  go_enter Tryz.func55, Tryz.ntmps55
  go_wp2_with fail
  refine HM.out.mono ?_
  rintro e w1 ⟨rfl, x1⟩
  go_wp2
  go_ret2
  exact ⟨rfl, x1⟩

set_option maxRecDepth 100000 in
set_option maxHeartbeats 800000 in
theorem ref03_Put_ok (A : Option Addr) (n c : Nat) (l : List FV) (w : World) (hf : Fs w A n l) (hn : n ≤ 20000) (hno : fmay l = 0) :
    Calls Tryz.prog 55 #[.slice A n c] w fun e w' => ∃ v, e = .returned (.tuple #[v, .int .i64 0]) ∧ w'.ownsRow w.heap.size 5 1 v (rput l).length ((rput l).map bv) ∧ Ext w w' := by
  have hlen := hf.len
  obtain ⟨hall, hsum⟩ := fmay_ok hno
  have hM := ref03_May A n c l w hf hn
  rw [hno] at hM
  have HM := Lib.hid hM; clear hM hno
  have Hall := Lib.hid hall; clear hall
  go_enter Tryz.func55, Tryz.ntmps55
  go_wp2_with fail
  refine HM.out.mono ?_
  rintro e w1 ⟨rfl, x1⟩
  have h0 := own_base (base' := w.heap.size) (own_empty w1 5 1) x1.size
  go_wp2
  go_loopw [5, 6] (fun v i wr => ∃ j : Nat, i = .int .i64 j ∧ j ≤ n ∧ wr.ownsRow w.heap.size 5 1 v (rput (l.take j)).length ((rput (l.take j)).map bv) ∧ Ext w wr) (fun _ i _ => n - (intOf i).toNat)
  case atStart => exact ⟨0, rfl, by omega, by simpa [rput] using h0, x1.alloc _⟩
  case round =>
    clear h0 x1
    obtain ⟨j, rfl, hj, hown, hx⟩ := hrel
    by_cases hjn : j < n
    · obtain ⟨b, off, rfl, d0, d1, d2, d3⟩ := (hf.ext hx).at_ hjn
      have hok := (hf.ext hx).ok l[j] (List.getElem_mem _)
      have hal := Hall.out l[j] (List.getElem_mem _)
      have hsn := rput_snoc l j (by omega)
      have hle : (rput (l.take j)).length ≤ 16384 := by rw [rput_len]; have := fsum_take l j; omega
      have hfs := fsize_le l[j] hal.1 hok hal.2
      have HP := Lib.hid (ref03_one_f l[j] _ hal.1 hok hal.2)
      have hszw := hx.size
      change Hid (Calls _ _ _ _ fun e w' => ∃ v, e = .returned v ∧ w'.ownsRow _ 5 1 v (fsize l[j]) ((fbytes l[j]).map bv) ∧ _) at HP
      have hbl : (fbytes l[j]).length = fsize l[j] := rfl
      generalize l[j] = f at *
      generalize rput (l.take j) = R at *
      have Hsn := Lib.hid hsn; clear hsn
      have Hbl := Lib.hid hbl; clear hbl
      clear hal hok
      go_wp2_with fail
      refine HP.out.mono ?_
      rintro e w2 ⟨v2, rfl, hown2, y2⟩
      obtain ⟨A2, k2, rfl, _⟩ := own_form hown2
      have b2 := Rd.of_own hown2
      have hown' := own_ext hown y2
      have hz2 := y2.size
      go_wp2_with (at_builtin; refine wpList_app bytesT (by omega) _ rfl rfl rfl hown' rfl b2 (bvs_one _) (by unfold maxLen; omega) (by omega) (by omega) ?_; intro v3 w3 hown3 hg3 hat3)
      go_roundw
      case rel => exact ⟨j + 1, val_int (by omega), by omega, own_to hown3 (Nat.le_refl _) (by rw [Hsn.out, List.length_append, Hbl.out]) (by rw [Hsn.out, List.map_append]), Below.app (hx.trans y2) hg3 (by omega) hown' (Nat.le_refl _)⟩
      case measure => simp [intOf]; omega
    · obtain rfl : j = n := by omega
      rw [List.take_of_length_le (by omega)] at hown
      go_wp2
      go_ret2
      exact ⟨_, rfl, hown, hx⟩

set_option maxRecDepth 100000 in
set_option maxHeartbeats 1600000 in
theorem ref03_Split (most : Int) (A : Option Addr) (n c : Nat) (l : List FV) (w : World) (hf : Fs w A n l) (hn : n ≤ 20000) :
    Calls Tryz.prog 20 #[.slice A n c, .int .i64 most] w fun e w' => ∃ vK vQ, e = .returned (.tuple #[vK, vQ]) ∧ w'.ownsRow w.heap.size 54 4 vK (l.filter (loB most)).length (rowOf (l.filter (loB most))) ∧ w'.ownsRow w.heap.size 54 4 vQ (l.filter (fun f => !loB most f)).length (rowOf (l.filter (fun f => !loB most f))) ∧
      Ext w w' := by
  have hlen := hf.len
  have e1 := own_base (base' := w.heap.size) (own_ext (own_empty w 54 4) ((Ext.refl _).alloc (.cells #[] 54))) (Nat.le_refl _)
  have e2 := own_base (base' := w.heap.size) (own_empty (w.alloc (.cells #[] 54)) 54 4) (by simp)
  have hz : (w.alloc (.cells #[] 54)).heap.size = w.heap.size + 1 := by simp
  rw [hz] at e2
  have E1 := Lib.hid e1
  have E2 := Lib.hid e2
  clear e1 e2 hz
  go_enter Tryz.func20, Tryz.ntmps20
  go_wp2
  go_loopw [6, 7, 8] (fun vK vQ i wr => ∃ j : Nat, i = .int .i64 j ∧ j ≤ n ∧ wr.ownsRow w.heap.size 54 4 vK ((l.take j).filter (loB most)).length (rowOf ((l.take j).filter (loB most))) ∧ wr.ownsRow w.heap.size 54 4 vQ ((l.take j).filter (fun f => !loB most f)).length (rowOf ((l.take j).filter (fun f => !loB most f))) ∧ (vK.ownBlock = none ∨ vK.ownBlock ≠ vQ.ownBlock) ∧ Ext w wr) (fun _ _ i _ => n - (intOf i).toNat)
  case atStart =>
    exact ⟨0, rfl, by omega, by simpa [rowOf] using E1.out, by simpa [rowOf] using E2.out, .inr (by simp [Value.ownBlock]), ((Ext.refl w).alloc _).alloc _⟩
  case round =>
    clear E1 E2
    obtain ⟨j, rfl, hj, hK, hQ, hap, hx⟩ := hrel
    have hPl : ((l.take j).filter (loB most)).length ≤ j := Nat.le_trans (List.length_filter_le _ _) (List.length_take_le _ _)
    have hQl : ((l.take j).filter (fun f => !loB most f)).length ≤ j := Nat.le_trans (List.length_filter_le _ _) (List.length_take_le _ _)
    have Hap := Lib.hid hap
    clear hap
    by_cases hjn : j < n
    · obtain ⟨b, off, rfl, d0, d1, d2, d3⟩ := (hf.ext hx).at_ hjn
      have hjl : j < l.length := by omega
      have hs1 := filt_snoc (loB most) l j hjl
      have hs2 := filt_snoc (fun f => !loB most f) l j hjl
      obtain ⟨f, hfj⟩ : ∃ f, l[j]'hjl = f := ⟨_, rfl⟩
      simp only [hfj] at hs1 hs2 d0 d1 d2 d3
      clear hfj
      generalize (l.take j).filter (loB most) = PP at *
      generalize (l.take j).filter (fun f => !loB most f) = QQ at *
      have Hs1 := Lib.hid hs1
      have Hs2 := Lib.hid hs2
      clear hs1 hs2
      obtain ⟨num, wire, fn, fA, flen, fcap, fb⟩ := f
      dsimp only at d0 d1 d2 d3
      have hszw := hx.size
      by_cases hm : num ≤ most
      · have hlo : loB most ⟨num, wire, fn, fA, flen, fcap, fb⟩ = true := by simp [loB, hm]
        have Hlo := Lib.hid hlo; clear hlo
        have hK' := hK.alloc (.cells #[.int .i64 num, .int .i64 wire, .int .u64 fn, .slice fA flen fcap] 54)
        go_wp2_with (at_builtin; refine wpList_app fieldsT (by omega) _ rfl rfl rfl hK' rfl (rd_at4 _ (.int .i64 num) (.int .i64 wire) (.int .u64 fn) (.slice fA flen fcap) _ _ (by simp)) (fcells_one _ _ _ _ _ _) (by unfold maxLen; omega) (by omega) (by simp; omega) ?_; intro v2 w2 hown2 hg2 hat2)
        go_roundw
        case rel =>
          refine ⟨j + 1, val_int (by omega), by omega, ?_, ?_, ?_, ?_⟩
          · rw [Hs1.out, if_pos Hlo.out]
            exact own_to hown2 (Nat.le_refl _) (by simp) (by rw [rowOf_append, rowOf_one]; rfl)
          · rw [Hs2.out, if_neg (by rw [Hlo.out]; simp), List.append_nil]
            exact (hQ.alloc _).kept hg2 (own_ne Hap.out)
          · exact own_ne (apart_new (W := wr.alloc (.cells #[.int .i64 num, .int .i64 wire, .int .u64 fn, .slice fA flen fcap] 54)) hQ (by simp) (own_ne Hap.out) hat2)
          · exact Below.app (hx.alloc _) hg2 (by simp; omega) hK' (Nat.le_refl _)
        case measure => simp [intOf]; omega
      · have hlo : loB most ⟨num, wire, fn, fA, flen, fcap, fb⟩ = false := by simp [loB]; omega
        have Hlo := Lib.hid hlo; clear hlo
        have hQ' := hQ.alloc (.cells #[.int .i64 num, .int .i64 wire, .int .u64 fn, .slice fA flen fcap] 54)
        go_wp2_with (at_builtin; refine wpList_app fieldsT (by omega) _ rfl rfl rfl hQ' rfl (rd_at4 _ (.int .i64 num) (.int .i64 wire) (.int .u64 fn) (.slice fA flen fcap) _ _ (by simp)) (fcells_one _ _ _ _ _ _) (by unfold maxLen; omega) (by omega) (by simp; omega) ?_; intro v2 w2 hown2 hg2 hat2)
        go_roundw
        case rel =>
          refine ⟨j + 1, val_int (by omega), by omega, ?_, ?_, ?_, ?_⟩
          · rw [Hs1.out, if_neg (by rw [Hlo.out]; simp), List.append_nil]
            exact (hK.alloc _).kept hg2 Hap.out
          · rw [Hs2.out, if_pos (by rw [Hlo.out]; simp)]
            exact own_to hown2 (Nat.le_refl _) (by simp) (by rw [rowOf_append, rowOf_one]; rfl)
          · exact apart_new (W := wr.alloc (.cells #[.int .i64 num, .int .i64 wire, .int .u64 fn, .slice fA flen fcap] 54)) hK (by simp) Hap.out hat2
          · exact Below.app (hx.alloc _) hg2 (by simp; omega) hQ' (Nat.le_refl _)
        case measure => simp [intOf]; omega
    · obtain rfl : n = j := by omega
      rw [List.take_of_length_le (by omega)] at hK hQ
      go_wp2
      go_ret2
      exact ⟨_, _, rfl, hK, hQ, hx⟩
end Go.Proofs.YtiildgoaiookhaaGreat

/- The walk of the law TlvAll. -/
namespace Go.Proofs.YtiildgoaiookhaaGreat
open Go.RowKit

set_option maxRecDepth 100000 in
set_option maxHeartbeats 400000 in
theorem ref03_Take_big (A : Option Addr) (n c : Nat) (w : World) (hn : 16384 < n) :
    Calls Tryz.prog 48 #[.slice A n c] w fun e w' => e = .returned (.tuple #[.slice none 0 0, .int .i64 4]) ∧ Ext w w' := by
  have hn1 : (16384 : Int) < n := by omega
  go_enter Tryz.func48, Tryz.ntmps48
  go_wp2
  go_ret2
  exact ⟨rfl, Ext.refl w⟩
theorem ref03_Take_any (A : Option Addr) (n c : Nat) (l : List UInt8) (w : World) (hb : Bs w A n l) (hn : n ≤ 100000) (hnc : n ≤ c) :
    Calls Tryz.prog 48 #[.slice A n c] w fun e w' => ∃ A' c' ms, e = .returned (.tuple #[.slice A' ms.length c', .int .i64 (ttrow l).2]) ∧ Fs w' A' ms.length ms ∧ ms.map FV.s = (ttrow l).1.map FV.s ∧ ms.length ≤ c' ∧ Ext w w' := by
  have hl := hb.len
  by_cases h : 16384 < n
  · refine (ref03_Take_big A n c w h).mono ?_
    rintro e w' ⟨rfl, hx⟩
    have : ttrow l = ([], 4) := by unfold ttrow; rw [if_pos (by omega)]
    rw [this]
    exact ⟨none, 0, [], rfl, Fs.nil_ _ _, rfl, Nat.le_refl _, hx⟩
  · refine (ref03_Take A n c l w hb (by omega) hnc).mono ?_
    rintro e w' ⟨v, ms, rfl, hown, hof, hs, hx⟩
    have : ttrow l = trow none l := by unfold ttrow; rw [if_neg (by omega)]
    rw [this]
    obtain ⟨A', c', rfl, hc⟩ := own_form hown
    exact ⟨A', c', ms, rfl, Fs.of_own hown (fun f hf => (hof f hf).ok), hs, hc, hx⟩
theorem ref03_Put_all (A : Option Addr) (n c : Nat) (l : List FV) (w : World) (hf : Fs w A n l) (hn : n ≤ 20000) :
    Calls Tryz.prog 55 #[.slice A n c] w fun e w' => ∃ A' k c', e = .returned (.tuple #[.slice A' k c', .int .i64 (fmay l)]) ∧ Bs w' A' k (if fmay l = 0 then rput l else []) ∧ k ≤ c' ∧ Ext w w' := by
  by_cases h : fmay l = 0
  · refine (ref03_Put_ok A n c l w hf hn h).mono ?_
    rintro e w' ⟨v, rfl, hown, hx⟩
    obtain ⟨A', c', rfl, hc⟩ := own_form hown
    exact ⟨A', _, c', by rw [h]; rfl, by rw [if_pos h]; exact Bs.of_own hown, hc, hx⟩
  · refine (ref03_Put_no A n c l w hf hn h).mono ?_
    rintro e w' ⟨rfl, hx⟩
    exact ⟨none, 0, 0, rfl, by rw [if_neg h]; exact Bs.nil_ _ _, Nat.le_refl _, hx⟩

end Go.Proofs.YtiildgoaiookhaaGreat

/- The walk of some of layer 10's laws. (Turned from that of few of layer 4's by wip/tools/some.py.) -/
namespace Go.Proofs.YtiildgoaiookhaaGreat
open Go.RowKit

/-- at most 12 fields, of 60 bytes each -/
def some12 (l : List FV) : List FV := (l.take 12).map (cutF 60)
theorem some12_len (l : List FV) : (some12 l).length = min 12 l.length := by simp [some12]
theorem some12_snoc (l : List FV) (j : Nat) (h : j < l.length) (h12 : j < 12) : (some12 l).take (j + 1) = (some12 l).take j ++ [cutF 60 l[j]] := by
  have hl : j < (some12 l).length := by rw [some12_len]; omega
  rw [List.take_succ_eq_append_getElem hl]
  congr 2
  simp [some12]
theorem some12_ok {l : List FV} {w : World} (h : ∀ f ∈ l, f.Ok w) : ∀ f ∈ some12 l, f.Ok w := by
  intro f hf
  obtain ⟨g, hg, rfl⟩ := List.mem_map.1 hf
  exact cutF_ok (h g (List.mem_of_mem_take hg))
theorem some12_cut (l : List FV) : ∀ f ∈ some12 l, f.len ≤ 60 := by
  intro f hf
  obtain ⟨g, _, rfl⟩ := List.mem_map.1 hf
  unfold cutF
  split
  · exact Nat.le_refl _
  · omega

end Go.Proofs.YtiildgoaiookhaaGreat
