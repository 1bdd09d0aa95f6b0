/- Texts of this claim, joined: PjRf, PjRg, PjArgs, PjArgs2. -/
import Derived.Test.YtfdhgcladnbdeaaGreatDoorM14
import Derived.Test.YtfdhgcladnbdeaaGreatDoorM12
import Derived.Test.YtfdhgcladnbdeaaGreatDoorM03
import Derived.Test.YtfdhgcladnbdeaaGreatDoorM10
import Derived.Test.YtfdhgcladnbdeaaGreatDoorRows
set_option linter.unusedVariables false
set_option linter.unusedSimpArgs false

section
/- Contracts: Next, and the walk of the law of canonical machines. -/
namespace Go.VC
open Go.Proofs Go.LexS
set_option maxRecDepth 100000
/-- an event of a history, with the header of its values -/
structure Hv where
  role : Int
  send : Bool
  peer : Int
  label : Int
  vs : Sl
def Hv.cs (x : Hv) : List Value := [.int .i64 x.role, .bool x.send, .int .i64 x.peer, .int .i64 x.label, .slice x.vs.a x.vs.n x.vs.c]
def hitF (s : Int) (x : Hv) (y : Mv) : Bool := decide (y.f = s ∧ y.send = x.send ∧ y.peer = x.peer ∧ y.label = x.label)
/-- the state behind an event, or -1 -/
def nxtM (m : Mch) (s : Int) (x : Hv) : Int := if x.role = m.role then (match m.mv.find? (hitF s x) with | some y => y.t | none => -1) else -1
theorem first_hit {α : Type} {p : α → Bool} : ∀ (l : List α) (i : Nat) (y : α), l[i]? = some y → p y = true → (∀ (j : Nat) z, j < i → l[j]? = some z → p z = false) → l.find? p = some y
  | [], i, y, h, _, _ => by simp at h
  | a :: l, 0, y, h, hp, _ => by simp at h; subst h; rw [List.find?_cons, hp]
  | a :: l, i + 1, y, h, hp, hn => by
    rw [List.find?_cons, hn 0 a (by omega) rfl]
    exact first_hit l i y (by simpa using h) hp fun j z hj hz => hn (j + 1) z (by omega) (by simpa using hz)
set_option maxHeartbeats 1000000 in
theorem next25 (m : Mch) (sf sm sl : Sl) (s : Int) (x : Hv) (h : Heap) (hM : MI h m sf sm sl) :
    Fn Tryz.prog 25 #[.agg ⟨mC m sf sm sl⟩, .int .i64 s, .agg ⟨x.cs⟩] h fun v h' => v = .int .i64 (nxtM m s x) ∧ Ext h h' := by
  apply vc25 m.role m.n m.s sf sm sl s x.role x.send x.peer x.label x.vs; unfold W25
  have hmn := hM.pm.ln
  have hmb := hM.pm.sm
  refine (St.refl h).newb fun h12 hs => ?_
  refine hs.newb fun h13 hs => ?_
  refine up_loopS (n := sm.n) hs (fun i => ∀ (j : Nat) y, j < i → m.mv[j]? = some y → ¬ (x.role = m.role ∧ hitF s x y = true)) (fun j y hj => by omega) ?_
  rintro - i h18 hi ⟨hs, hq⟩
  refine ⟨sm, hs.rd 1 rfl rfl, sB_intro (fun c => ?_) (fun c => ?_)⟩
  · replace c := lt_t c
    refine ⟨sm, hs.rd 1 rfl rfl, ?_⟩
    refine (hM.pm.rw.ext hs.ext).nbI (by omega) (by omega) fun b o y gy t => ?_
    replace gy : m.mv[i]? = some y := gy
    refine ⟨_, _, _, _, _, _, t, ?_⟩
    refine hs.newput (vs := y.cs) rfl rfl fun h30 hs => ?_
    have miss : ¬ (x.role = m.role ∧ hitF s x y = true) → ∃ m41, m41 < sm.n - i ∧ Up sm.n (fun i h' => St h h' [.blk h12.size x.cs 60, .blk h.size (mC m sf sm sl) 33] ∧ ∀ (j : Nat) y, j < i → m.mv[j]? = some y → ¬ (x.role = m.role ∧ hitF s x y = true)) (IntKind.wrap .i64 ((i : Int) + 1)) h30 m41 := fun hn =>
      Up.next c (by omega) ⟨hs.drop 1, fun j z hj hz => by
        by_cases e : j = i
        · subst e; rw [gy] at hz; cases hz; exact hn
        · exact hq j z (by omega) hz⟩
    refine ⟨_, hs.rd 1 rfl rfl, _, hs.rd 2 rfl rfl, sB_intro (fun c1 => ?_) (fun c1 => miss fun ⟨e, _⟩ => by rw [e] at c1; simp at c1)⟩
    refine ⟨_, hs.rd 0 rfl rfl, sB_intro (fun c2 => ?_) (fun c2 => miss fun ⟨_, e⟩ => by have := (of_decide_eq_true e).1; rw [this] at c2; simp at c2)⟩
    refine ⟨_, hs.rd 0 rfl rfl, _, hs.rd 1 rfl rfl, sB_intro (fun c3 => ?_) (fun c3 => miss fun ⟨_, e⟩ => by have := (of_decide_eq_true e).2.1; rw [this] at c3; simp at c3)⟩
    refine ⟨_, hs.rd 0 rfl rfl, _, hs.rd 1 rfl rfl, sB_intro (fun c4 => ?_) (fun c4 => miss fun ⟨_, e⟩ => by have := (of_decide_eq_true e).2.2.1; rw [this] at c4; simp at c4)⟩
    refine ⟨_, hs.rd 0 rfl rfl, _, hs.rd 1 rfl rfl, sB_intro (fun c5 => ?_) (fun c5 => miss fun ⟨_, e⟩ => by have := (of_decide_eq_true e).2.2.2; rw [this] at c5; simp at c5)⟩
    refine ⟨_, hs.rd 0 rfl rfl, ?_, hs.ext⟩
    have e1 : x.role = m.role := by simpa using c1
    have e2 : y.f = s := by simpa using c2
    have e3 : y.send = x.send := by simpa using c3
    have e4 : y.peer = x.peer := by simpa using c4
    have e5 : y.label = x.label := by simpa using c5
    unfold nxtM
    rw [if_pos e1, first_hit m.mv i y gy (by unfold hitF; exact decide_eq_true ⟨e2, e3, e4, e5⟩) fun j z hj hz => by
      have := hq j z hj hz
      cases hb : hitF s x z with
      | false => rfl
      | true => exact absurd ⟨e1, hb⟩ this]
  · replace c := lt_f c
    refine ⟨?_, hs.ext⟩
    unfold nxtM
    by_cases e1 : x.role = m.role
    · rw [if_pos e1]
      have : m.mv.find? (hitF s x) = none := by
        rw [List.find?_eq_none]
        intro z hz hb
        obtain ⟨j, hj⟩ := List.mem_iff_getElem?.1 hz
        exact hq j z (by have := (List.getElem?_eq_some_iff.1 hj).1; omega) hj ⟨e1, hb⟩
      rw [this]
    · rw [if_neg e1]
/-- what the law asks of Project's machine m and of Raw's machine w -/
structure CanS (m w : Mch) (role : Int) where
  gm : MGood m
  gw : MGood w
  s0 : m.s = 0
  nn : m.n ≤ w.n
  rm : m.role = role
  rw_ : w.role = role
  nx : Nat → Int
  nx0 : nx 0 = 1
  nxs : ∀ (i : Nat) x, m.mv[i]? = some x → x.t ≤ nx i ∧ x.f < nx i ∧ nx (i + 1) = if x.t = nx i then nx i + 1 else nx i
  nxe : nx m.mv.length = m.n
  nxb : ∀ i, i ≤ m.mv.length → 0 ≤ nx i ∧ nx i ≤ 200
  li : m.li.Pairwise fun a b => a.s < b.s
  Rel : Int → Int → Prop
  r0 : Rel m.s w.s
  rs : ∀ a b, Rel a b → 0 ≤ a → 0 ≤ b ∧ a < m.n ∧ b < w.n ∧ m.fin[a.toNat]? = w.fin[b.toNat]? ∧ ∀ x, Rel (nxtM m a x) (nxtM w b x)
  rn : ∀ a b, Rel a b → 0 ≤ b → 0 ≤ a
set_option maxHeartbeats 4000000 in
theorem canonical6 (g : Gl) (role : Int) (s : Sl) (L : List Hv) (h : Heap) (hg : GI h g) (hx : Gx h) (hM : GNm g.ds) (hL : RL h 5 s Hv.cs L)
    (hP : ∀ w, raw g role = (some w, 0) → w.mv.length ≤ 1048576 ∧ w.li.length ≤ 1048576 ∧ (minF w).mv.length ≤ 1048576 ∧ (minF w).li.length ≤ 1048576 ∧ Nonempty (CanS (minF w) w role)) :
    Fn Tryz.prog 6 #[g.v, .int .i64 role, .slice s.a s.n s.c] h fun v h' => v = .bool true ∧ Ext h h' := by
  apply vc6 (bs g.nm) g.hr g.hd g.n g.s g.e g.he g.ht role s; unfold W6
  have hs := St.refl h
  refine hs.newb fun h9 hs => ?_
  refine (awake10 h9 (hx.ext hs.ext)).mono ?_
  rintro _ h12 ⟨rfl, E12⟩
  replace hs := hs.step E12
  refine ⟨_, rfl, sB_f rfl ?_⟩
  refine ⟨_, _, _, _, _, _, _, _, hs.at 0 rfl (n := 8) rfl, ?_⟩
  refine (small21 g role h12 (hg.ext hs.ext) hM).mono ?_
  rintro _ h23 ⟨⟨b, rfl, _⟩, E23⟩
  replace hs := hs.step E23
  refine ⟨_, rfl, sB_intro (fun _ => ⟨rfl, hs.ext⟩) (fun _ => sB_intro (fun _ => ⟨rfl, hs.ext⟩) (fun hlen => ?_))⟩
  have hlen20 : s.n ≤ 20 := by have := of_decide_eq_false hlen; omega
  refine ⟨_, _, _, _, _, _, _, _, hs.at 0 rfl (n := 8) rfl, ?_⟩
  refine (project12 g role h23 (hg.ext hs.ext) (hx.ext hs.ext)).mono ?_
  rintro _ h40 ⟨E40, hr1⟩
  cases hr1 with
  | @err e he h0 =>
    replace hs := hs.step E40
    refine ⟨0, 0, 0, ⟨none, 0, 0⟩, ⟨none, 0, 0⟩, ⟨none, 0, 0⟩, e, rfl, ?_⟩
    refine hs.newput (vs := m0) rfl rfl fun h42 hs => ?_
    refine ⟨_, _, _, _, _, _, _, _, hs.at 1 rfl (n := 8) rfl, ?_⟩
    refine (raw14 g role h42 (hg.ext hs.ext) (hx.ext hs.ext)).mono ?_
    rintro _ h59 ⟨E59, hr2⟩
    cases hr2 with
    | @err e2 he2 h02 =>
      replace hs := hs.step E59
      have hee : e = e2 := by unfold proj at he; rw [he2] at he; cases he; rfl
      subst hee
      refine ⟨0, 0, 0, ⟨none, 0, 0⟩, ⟨none, 0, 0⟩, ⟨none, 0, 0⟩, e, rfl, ?_⟩
      refine hs.newput (vs := m0) rfl rfl fun h61 hs => ?_
      exact sBn (fun c => absurd rfl c) fun _ => sBn (fun _ => ⟨rfl, hs.ext⟩) fun c => absurd c h0
    | @ok w sf sm sl he2 hw => exfalso; unfold proj at he; rw [he2] at he; cases he
  | @ok m sf sm sl he hm =>
    have hs0 := hs
    replace hs := hs.join hm
    refine ⟨m.role, m.n, m.s, sf, sm, sl, 0, rfl, ?_⟩
    refine hs.newput (vs := mC m sf sm sl) rfl rfl fun h42 hs => ?_
    refine ⟨_, _, _, _, _, _, _, _, hs.at 1 rfl (n := 8) rfl, ?_⟩
    refine (raw14 g role h42 (hg.ext hs.ext) (hx.ext hs.ext)).mono ?_
    rintro _ h59 ⟨E59, hr2⟩
    cases hr2 with
    | @err e2 he2 h02 => exfalso; unfold proj at he; rw [he2] at he; cases he
    | @ok w wf wm wl he2 hw =>
      have hmw : m = minF w := by unfold proj at he; rw [he2] at he; cases he; rfl
      subst hmw
      obtain ⟨b1, b2, b3, b4, ⟨C⟩⟩ := hP w he2
      replace hs := hs.join hw
      refine ⟨w.role, w.n, w.s, wf, wm, wl, 0, rfl, ?_⟩
      refine hs.newput (vs := mC w wf wm wl) rfl rfl fun h61 hs => ?_
      refine sBn (fun c => absurd rfl c) fun _ => sBn (fun c => absurd rfl c) fun _ => ?_
      have gn := C.gm.n
      have gfl := C.gm.fl
      have wn := C.gw.n
      have wfl := C.gw.fl
      have hMm : MI h61 (minF w) sf sm sl := hs.mi 3 rfl rfl rfl (by omega) b3 b4
      have hMw : MI h61 w wf wm wl := hs.mi 6 rfl rfl rfl (by omega) b1 b2
      have hcm : ∀ {h' : Heap}, Ext h61 h' → atC h' ⟨h40.size, 0, none⟩ (mC (minF w) sf sm sl) := fun E => atC_ext E (hs.at 1 rfl (n := 6) rfl)
      have hcw : ∀ {h' : Heap}, Ext h61 h' → atC h' ⟨h59.size, 0, none⟩ (mC w wf wm wl) := fun E => atC_ext E (hs.at 0 rfl (n := 6) rfl)
      have E61 := hs.ext
      have hL61 := hL.ext E61
      clear hs hs0 hm hw
      have hfn := hMm.pf.ln
      have hmn := hMm.pm.ln
      have hln := hMm.pl.ln
      have hwfn := hMw.pf.ln
      have hsn := hL.ln
      generalize hmm : minF w = m at *
      have hs := St.refl h61
      refine ⟨_, _, _, sf, sm, sl, hcm hs.ext, ?_⟩
      refine (right17 m sf sm sl h61 hMm C.gm).mono ?_
      rintro _ h70 ⟨rfl, E70⟩
      replace hs := hs.step E70
      refine ⟨_, rfl, sB_f rfl ?_⟩
      refine ⟨_, _, _, wf, wm, wl, hcw hs.ext, ?_⟩
      refine (right17 w wf wm wl h70 (hMw.ext hs.ext) C.gw).mono ?_
      rintro _ h79 ⟨rfl, E79⟩
      replace hs := hs.step E79
      refine ⟨_, rfl, sB_f rfl ?_⟩
      have hnn := C.nn
      refine ⟨_, (hcm hs.ext).nth 2 rfl, sBn (fun c => absurd C.s0 c) fun _ => ?_⟩
      refine ⟨_, (hcm hs.ext).nth 1 rfl, _, (hcw hs.ext).nth 1 rfl, sBi (fun c => by omega) fun _ => ?_⟩
      refine ⟨_, (hcm hs.ext).nth 0 rfl, sBn (fun c => absurd C.rm c) fun _ => ?_⟩
      refine ⟨_, (hcw hs.ext).nth 0 rfl, sBn (fun c => absurd C.rw_ c) fun _ => ?_⟩
      refine ⟨sm, (hcm hs.ext).nth 4 rfl, ?_⟩
      refine ⟨fun q x h' μ => ∃ i : Nat, x = i ∧ i ≤ sm.n ∧ μ = sm.n - i ∧ q = C.nx i ∧ St h61 h' [], ⟨_, 0, rfl, by omega, rfl, C.nx0.symm, hs⟩, ?_⟩
      clear hs
      rintro - q _ h91 μ ⟨i, rfl, hi, rfl, rfl, hs⟩
      refine sB_intro (fun c => ?_) (fun c => ?_)
      · replace c := lt_t c
        have hpm := hMm.pm.rw.ext hs.ext
        refine hpm.nbI (by omega) (by omega) fun b92 o93 x g92 t92 => ?_
        replace g92 : m.mv[i]? = some x := g92
        refine ⟨_, _, _, _, _, _, t92, ?_⟩
        have hstep := C.nxs i x g92
        have hnb := C.nxb i (by omega)
        refine hs.newput (vs := x.cs) rfl rfl fun h101 hs => ?_
        refine sB_intro (fun c0 => ?_) (fun _ => ?_)
        · replace c0 := of_decide_eq_true c0
          have hw1 : IntKind.wrap .i64 ((i : Int) - 1) = ((i - 1 : Nat) : Int) := by rw [w64 (by omega) (by omega)]; omega
          obtain ⟨y, hy⟩ := get_some (l := m.mv) (i := i - 1) (by omega)
          have hlt : mvLt y x := mvLt_get C.gm.so (i := i - 1) (j := i) (by omega) hy g92
          have hle : y.f ≤ x.f := by rcases hlt with h1 | ⟨h1, _⟩ <;> omega
          have hpm := hMm.pm.rw.ext hs.ext
          refine ⟨_, hs.rd 0 rfl rfl, sm, (hcm hs.ext).nth 4 rfl, ?_⟩
          rw [hw1]
          refine hpm.nbI (by omega) (by omega) fun b104 o105 y1 g104 t104 => ?_
          replace g104 : m.mv[i - 1]? = some y1 := g104
          rw [hy] at g104; cases g104
          refine ⟨_, t104.hd, sBi (fun c => by omega) fun _ => ?_⟩
          refine ⟨_, hs.rd 0 rfl rfl, sm, (hcm hs.ext).nth 4 rfl, ?_⟩
          refine hpm.nbI (by omega) (by omega) fun b109 o110 y2 g109 t109 => ?_
          replace g109 : m.mv[i - 1]? = some y2 := g109
          rw [hy] at g109; cases g109
          refine ⟨_, t109.hd, sB_intro (fun c1 => ?_) (fun _ => ?_)⟩
          · have e1 : x.f = y.f := by simpa using c1
            have hev : evLt y.ev x.ev := by rcases hlt with h1 | ⟨_, h1⟩; omega; exact h1
            refine ⟨sm, (hcm hs.ext).nth 4 rfl, ?_⟩
            refine hpm.nbI (by omega) (by omega) fun b113 o114 y3 g113 t113 => ?_
            replace g113 : m.mv[i - 1]? = some y3 := g113
            rw [hy] at g113; cases g113
            refine ⟨_, _, _, _, _, _, t113, _, _, _, _, _, _, hs.at 0 rfl (o := 0) (n := 6) rfl, ?_⟩
            refine (before26 y x h101).mono ?_
            rintro _ h129 ⟨rfl, E129⟩
            replace hs := hs.step E129
            refine ⟨_, rfl, smx E129, ?_⟩
            rw [decide_eq_true hev]
            refine sB_f rfl ?_
            refine ⟨_, hs.rd 0 rfl rfl, sBi (fun c => by omega) fun _ => ?_⟩
            refine ⟨_, hs.rd 0 rfl rfl, sBi (fun c => by omega) fun _ => ?_⟩
            refine ⟨_, hs.rd 0 rfl rfl, sB_intro (fun c5 => ?_) (fun c5 => ?_)⟩
            · have e5 : x.t = C.nx i := by simpa using c5
              refine ⟨sm.n - (i + 1), by omega, i + 1, by rw [w64 (by omega) (by omega)]; omega, by omega, rfl, ?_, hs.drop 1⟩
              rw [hstep.2.2, if_pos e5, w64 (by omega) (by omega)]
            · have e5 : ¬ x.t = C.nx i := by simpa using c5
              refine ⟨sm.n - (i + 1), by omega, i + 1, by rw [w64 (by omega) (by omega)]; omega, by omega, rfl, ?_, hs.drop 1⟩
              rw [hstep.2.2, if_neg e5]
          · refine ⟨_, hs.rd 0 rfl rfl, sBi (fun c => by omega) fun _ => ?_⟩
            refine ⟨_, hs.rd 0 rfl rfl, sBi (fun c => by omega) fun _ => ?_⟩
            refine ⟨_, hs.rd 0 rfl rfl, sB_intro (fun c5 => ?_) (fun c5 => ?_)⟩
            · have e5 : x.t = C.nx i := by simpa using c5
              refine ⟨sm.n - (i + 1), by omega, i + 1, by rw [w64 (by omega) (by omega)]; omega, by omega, rfl, ?_, hs.drop 1⟩
              rw [hstep.2.2, if_pos e5, w64 (by omega) (by omega)]
            · have e5 : ¬ x.t = C.nx i := by simpa using c5
              refine ⟨sm.n - (i + 1), by omega, i + 1, by rw [w64 (by omega) (by omega)]; omega, by omega, rfl, ?_, hs.drop 1⟩
              rw [hstep.2.2, if_neg e5]
        · refine ⟨_, hs.rd 0 rfl rfl, sBi (fun c => by omega) fun _ => ?_⟩
          refine ⟨_, hs.rd 0 rfl rfl, sBi (fun c => by omega) fun _ => ?_⟩
          refine ⟨_, hs.rd 0 rfl rfl, sB_intro (fun c5 => ?_) (fun c5 => ?_)⟩
          · have e5 : x.t = C.nx i := by simpa using c5
            refine ⟨sm.n - (i + 1), by omega, i + 1, by rw [w64 (by omega) (by omega)]; omega, by omega, rfl, ?_, hs.drop 1⟩
            rw [hstep.2.2, if_pos e5, w64 (by omega) (by omega)]
          · have e5 : ¬ x.t = C.nx i := by simpa using c5
            refine ⟨sm.n - (i + 1), by omega, i + 1, by rw [w64 (by omega) (by omega)]; omega, by omega, rfl, ?_, hs.drop 1⟩
            rw [hstep.2.2, if_neg e5]
      · replace c := lt_f c
        have hil : i = m.mv.length := by omega
        subst hil
        clear c hi
        refine ⟨fun x h' μ => ∃ i : Nat, x = i ∧ 1 ≤ i ∧ μ = sl.n - i ∧ St h61 h' [], ⟨_, 1, rfl, by omega, rfl, hs⟩, ?_⟩
        clear hs
        rintro - _ h149 μ ⟨i, rfl, hi, rfl, hs⟩
        refine ⟨sl, (hcm hs.ext).nth 5 rfl, sB_intro (fun c => ?_) (fun _ => ?_)⟩
        · replace c := lt_t c
          have hlb := hMm.pl.sm
          have hpl := hMm.pl.rw.ext hs.ext
          have hw1 : IntKind.wrap .i64 ((i : Int) - 1) = ((i - 1 : Nat) : Int) := by rw [w64 (by omega) (by omega)]; omega
          refine ⟨sl, (hcm hs.ext).nth 5 rfl, ?_⟩
          refine hpl.nbI (by omega) (by omega) fun b152 o153 t1 g152 t152 => ?_
          replace g152 : m.li[i]? = some t1 := g152
          refine ⟨_, t152.hd, sl, (hcm hs.ext).nth 5 rfl, ?_⟩
          rw [hw1]
          refine hpl.nbI (by omega) (by omega) fun b156 o157 t2 g156 t156 => ?_
          replace g156 : m.li[i - 1]? = some t2 := g156
          have hlt : t2.s < t1.s := by
            obtain ⟨l1, e1⟩ := List.getElem?_eq_some_iff.1 g152
            obtain ⟨l2, e2⟩ := List.getElem?_eq_some_iff.1 g156
            have := List.pairwise_iff_getElem.1 C.li (i - 1) i l2 l1 (by omega)
            rw [e1, e2] at this; exact this
          exact ⟨_, t156.hd, sBi (fun c => by omega) fun _ => ⟨_, by omega, i + 1, by rw [w64 (by omega) (by omega)]; omega, by omega, rfl, hs⟩⟩
        · refine ⟨_, (hcm hs.ext).nth 2 rfl, _, (hcw hs.ext).nth 2 rfl, ?_⟩
          refine ⟨fun a b x h' μ => ∃ i : Nat, x = i ∧ i ≤ s.n ∧ μ = s.n - i ∧ C.Rel a b ∧ St h61 h' [], ⟨_, 0, rfl, by omega, rfl, C.r0, hs⟩, ?_⟩
          clear hs
          rintro - a b _ h168 μ ⟨i, rfl, hi, rfl, hR, hs⟩
          refine sB_intro (fun c => ?_) (fun _ => ?_)
          · replace c := lt_t c
            refine (hL61.rw.ext hs.ext).nbI (by omega) (by omega) fun b169 o170 x g169 t169 => ?_
            refine ⟨_, _, _, _, x.vs, t169, ?_⟩
            refine hs.newput (vs := x.cs) rfl rfl fun h177 hs => ?_
            refine ⟨fun a' h' => a' = (if 0 ≤ a then nxtM m a x else a) ∧ St h61 h' [.blk h168.size x.cs 60], ?_, ?_⟩
            · refine sBi (fun c1 => ?_) (fun c1 => ?_)
              · refine ⟨_, _, _, sf, sm, sl, hcm hs.ext, _, _, _, _, x.vs, hs.at 0 rfl (o := 0) (n := 5) rfl, ?_⟩
                refine (next25 m sf sm sl a x h177 (hMm.ext hs.ext)).mono ?_
                rintro _ h192 ⟨rfl, E⟩
                exact ⟨_, rfl, by rw [if_pos (by omega)], hs.step E⟩
              · exact ⟨by rw [if_neg (by omega)], hs⟩
            clear hs
            rintro - a' h194 ⟨ha', hs⟩
            refine ⟨fun b' h' => b' = (if 0 ≤ b then nxtM w b x else b) ∧ St h61 h' [.blk h168.size x.cs 60], ?_, ?_⟩
            · refine sBi (fun c1 => ?_) (fun c1 => ?_)
              · refine ⟨_, _, _, wf, wm, wl, hcw hs.ext, _, _, _, _, x.vs, hs.at 0 rfl (o := 0) (n := 5) rfl, ?_⟩
                refine (next25 w wf wm wl b x h194 (hMw.ext hs.ext)).mono ?_
                rintro _ h209 ⟨rfl, E⟩
                exact ⟨_, rfl, by rw [if_pos (by omega)], hs.step E⟩
              · exact ⟨by rw [if_neg (by omega)], hs⟩
            clear hs
            rintro - b' h211 ⟨hb', hs⟩
            have hR' : C.Rel a' b' := by
              rw [ha', hb']
              by_cases h0 : 0 ≤ a
              · obtain ⟨k1, _, _, _, k2⟩ := C.rs a b hR h0
                rw [if_pos h0, if_pos k1]; exact k2 x
              · rw [if_neg h0, if_neg (fun h1 => h0 (C.rn a b hR h1))]; exact hR
            have hiff : (0 ≤ a' ↔ 0 ≤ b') := ⟨fun h0 => (C.rs a' b' hR' h0).1, fun h0 => C.rn a' b' hR' h0⟩
            have hdec : (!((decide (a' ≥ 0)) == (decide (b' ≥ 0)))) = false := by
              by_cases h0 : 0 ≤ a'
              · rw [decide_eq_true h0, decide_eq_true (hiff.1 h0)]; rfl
              · rw [decide_eq_false h0, decide_eq_false (fun h1 => h0 (hiff.2 h1))]; rfl
            refine sB_f hdec ?_
            have fin : ∃ m220, m220 < s.n - i ∧ ∃ i_1 : Nat, IntKind.wrap .i64 ((i : Int) + 1) = i_1 ∧ i_1 ≤ s.n ∧ m220 = s.n - i_1 ∧ C.Rel a' b' ∧ St h61 h211 [] := ⟨_, by omega, i + 1, by rw [w64 (by omega) (by omega)]; omega, by omega, rfl, hR', hs.drop 1⟩
            refine sBi (fun c1 => ?_) (fun _ => fin)
            obtain ⟨k1, k2, k3, k4, _⟩ := C.rs a' b' hR' (by omega)
            refine ⟨sf, (hcm hs.ext).nth 3 rfl, ?_⟩
            refine (hMm.pf.rw.ext hs.ext).nbI (by omega) (by omega) fun b213 o214 f1 g213 t213 => ?_
            refine ⟨_, t213.hd, wf, (hcw hs.ext).nth 3 rfl, ?_⟩
            refine (hMw.pf.rw.ext hs.ext).nbI (by omega) (by omega) fun b217 o218 f2 g217 t217 => ?_
            have hff : f1 = f2 := by rw [g213, g217] at k4; exact Option.some.inj k4
            subst hff
            exact ⟨_, t217.hd, sB_f (by cases f1 <;> rfl) fin⟩
          · refine ⟨_, (hcm hs.ext).nth 1 rfl, ?_, E61.trans hs.ext⟩
            rw [C.nxe, beq_self_eq_true]
end Go.VC
end

section
/- Project's machine is canonical and makes what Raw's makes. No program here. -/
namespace Go.VC
open Go.LexS
def nxL (l : List Mv) : Int := l.foldl (fun n x => if x.t = n then n + 1 else n) 1
theorem nxL_snoc (l : List Mv) (x : Mv) : nxL (l ++ [x]) = if x.t = nxL l then nxL l + 1 else nxL l := by unfold nxL; rw [List.foldl_append]; rfl
theorem fold_ge : ∀ (l : List Mv) (a : Int), a ≤ l.foldl (fun n x => if x.t = n then n + 1 else n) a
  | [], a => Int.le_refl _
  | x :: l, a => by
    rw [List.foldl_cons]
    refine Int.le_trans ?_ (fold_ge l _)
    split <;> omega
theorem nxL_take (l : List Mv) (i : Nat) : 1 ≤ nxL (l.take i) ∧ nxL (l.take i) ≤ nxL l := by
  refine ⟨fold_ge _ _, ?_⟩
  have e : nxL l = (l.drop i).foldl (fun n x => if x.t = n then n + 1 else n) (nxL (l.take i)) := by
    unfold nxL; rw [← List.foldl_append, List.take_append_drop]
  rw [e]; exact fold_ge _ _
structure NumI (mv : List Mv) (Q : List Nat) : Prop where
  a : ∀ (i : Nat) x, mv[i]? = some x → x.t ≤ nxL (mv.take i) ∧ x.f < nxL (mv.take i)
  b : nxL mv = (Q.length : Int)
theorem NumI.push {mv : List Mv} {Q : List Nat} (h : NumI mv Q) {hd : Nat} (hhd : hd < Q.length) (c : Nat) {x : Mv} (hf : x.f = (hd : Int)) (ht : x.t = (idxF (addQ Q c) c : Nat)) : NumI (mv ++ [x]) (addQ Q c) := by
  have hb := h.b
  by_cases hc : c ∈ Q
  · have e : addQ Q c = Q := by unfold addQ; rw [if_pos hc]
    rw [e] at ht ⊢
    have hlt := idxF_lt hc
    refine ⟨fun i y hy => ?_, by rw [nxL_snoc, if_neg (by omega)]; exact hb⟩
    by_cases hi : i < mv.length
    · rw [List.getElem?_append_left hi] at hy
      rw [List.take_append_of_le_length (by omega)]
      exact h.a i y hy
    · have hil := (List.getElem?_eq_some_iff.1 hy).1
      rw [List.length_append, List.length_singleton] at hil
      have : i = mv.length := by omega
      subst this
      rw [List.getElem?_append_right (Nat.le_refl _), Nat.sub_self] at hy
      cases hy
      rw [List.take_append_of_le_length (Nat.le_refl _), List.take_length, hb]
      omega
  · have e : addQ Q c = Q ++ [c] := by unfold addQ; rw [if_neg hc]
    have hidx : idxF (Q ++ [c]) c = Q.length := by
      clear h hb e ht hhd
      induction Q with
      | nil => simp [idxF]
      | cons q Q ih =>
        rw [List.cons_append, idxF, if_neg (fun e => hc (by rw [e]; exact List.mem_cons_self ..)), ih (fun hm => hc (List.mem_cons_of_mem _ hm)), List.length_cons]
    rw [e, hidx] at ht
    rw [e]
    refine ⟨fun i y hy => ?_, by rw [nxL_snoc, if_pos (by omega), List.length_append, List.length_singleton]; omega⟩
    by_cases hi : i < mv.length
    · rw [List.getElem?_append_left hi] at hy
      rw [List.take_append_of_le_length (by omega)]
      exact h.a i y hy
    · have hil := (List.getElem?_eq_some_iff.1 hy).1
      rw [List.length_append, List.length_singleton] at hil
      have : i = mv.length := by omega
      subst this
      rw [List.getElem?_append_right (Nat.le_refl _), Nat.sub_self] at hy
      cases hy
      rw [List.take_append_of_le_length (Nat.le_refl _), List.take_length, hb]
      omega
/-- the limits so far: in order, and below hd -/
structure LiI (hd : Nat) (li : List To) : Prop where
  a : li.Pairwise fun a b => a.s < b.s
  b : ∀ t ∈ li, t.s < (hd : Int)
theorem LiI.push {hd : Nat} {li : List To} (h : LiI hd li) {t : To} (ht : t.s = (hd : Int)) : LiI (hd + 1) (li ++ [t]) := by
  refine ⟨List.pairwise_append.2 ⟨h.a, List.pairwise_singleton _ _, fun a ha b hb => ?_⟩, fun x hx => ?_⟩
  · rw [List.mem_singleton] at hb; subst hb; have := h.b a ha; omega
  · rcases List.mem_append.1 hx with hx | hx
    · have := h.b x hx; omega
    · rw [List.mem_singleton] at hx; subst hx; omega
theorem LiI.next {hd : Nat} {li : List To} (h : LiI hd li) : LiI (hd + 1) li := ⟨h.a, fun t ht => by have := h.b t ht; omega⟩
theorem row_num {r : Mch} {C : List Nat} {hd s : Nat} {Q : List Nat} {mv : List Mv} {li : List To} (hS : r.mv.Pairwise mvLt) (hhd : hd < Q.length) (tl : Option To) (hN : NumI mv Q) (hL : LiI hd li) :
    NumI ((outM r s).foldl (minX r C hd tl) (Q, mv, li)).2.1 ((outM r s).foldl (minX r C hd tl) (Q, mv, li)).1 ∧ LiI (hd + 1) ((outM r s).foldl (minX r C hd tl) (Q, mv, li)).2.2 ∧ Q.length ≤ ((outM r s).foldl (minX r C hd tl) (Q, mv, li)).1.length := by
  have hso := outM_sorted hS s
  have key := foldl_ind (f := minX r C hd tl) (l := outM r s) (b := (Q, mv, li)) (P := fun j st => NumI st.2.1 st.1 ∧ Q.length ≤ st.1.length ∧ (st.2.2 = li ∨ ∃ t t0 y, st.2.2 = li ++ [t] ∧ t.s = (hd : Int) ∧ tl = some t0 ∧ r.mv[t0.e.toNat]? = some y ∧ ∃ (k : Nat) (x : Mv), k < j ∧ (outM r s)[k]? = some x ∧ x.ev = y.ev))
    ⟨hN, Nat.le_refl _, .inl rfl⟩ (fun j x st hx ⟨h1, h2, h3⟩ => by
      refine ⟨?_, ?_, ?_⟩
      · exact h1.push (by omega) _ rfl rfl
      · obtain ⟨E, hE⟩ := addQ_ext st.1 (C.getD x.t.toNat 0)
        show Q.length ≤ (addQ st.1 (C.getD x.t.toNat 0)).length
        rw [hE, List.length_append]; omega
      · show st.2.2 ++ _ = li ∨ ∃ t t0 y, st.2.2 ++ _ = li ++ [t] ∧ _
        cases htl : tl with
        | none =>
          simp only [List.append_nil]
          rw [htl] at h3
          rcases h3 with h3 | ⟨t, t0, y, _, _, h6, _⟩
          · exact .inl h3
          · cases h6
        | some t0 =>
          rw [htl] at h3
          cases hy : r.mv[t0.e.toNat]? with
          | none =>
            simp only [hy, List.append_nil]
            rcases h3 with h3 | ⟨t, t0', y, _, _, h6, h7, _⟩
            · exact .inl h3
            · cases h6; rw [hy] at h7; cases h7
          | some y =>
            simp only [hy]
            by_cases he : x.ev = y.ev
            · rw [if_pos he]
              rcases h3 with h3 | ⟨t, t0', y', _, _, h6, h7, k, x', hk, hx', he'⟩
              · exact .inr ⟨_, t0, y, by rw [h3], rfl, rfl, hy, j, x, by omega, hx, he⟩
              · cases h6
                rw [hy] at h7; cases h7
                exfalso
                have hlt := mvLt_get hso hk hx' hx
                have f1 := (outM_f (List.mem_of_getElem? hx')).2
                have f2 := (outM_f (List.mem_of_getElem? hx)).2
                rcases hlt with h | ⟨_, h⟩
                · omega
                · rw [he', he] at h; exact evLt_irr _ h
            · rw [if_neg he, List.append_nil]
              rcases h3 with h3 | ⟨t, t0', y', h4, h5, h6, h7, k, x', hk, hx', he'⟩
              · exact .inl h3
              · exact .inr ⟨t, t0', y', h4, h5, h6, h7, k, x', by omega, hx', he'⟩)
  generalize (outM r s).foldl (minX r C hd tl) (Q, mv, li) = st at *
  obtain ⟨h1, h2, h3⟩ := key
  refine ⟨h1, ?_, h2⟩
  rcases h3 with h3 | ⟨t, _, _, h3, h4, _⟩
  · rw [h3]; exact hL.next
  · rw [h3]; exact hL.push h4
theorem minN_num {r : Mch} {C : List Nat} (hS : r.mv.Pairwise mvLt) : ∀ (f hd : Nat) (Q : List Nat) (fin : List Bool) (mv : List Mv) (li : List To), hd ≤ Q.length → NumI mv Q → LiI hd li →
    nxL (minN r C f hd Q fin mv li).mv = (minN r C f hd Q fin mv li).n ∧ (∀ (i : Nat) x, (minN r C f hd Q fin mv li).mv[i]? = some x → x.t ≤ nxL ((minN r C f hd Q fin mv li).mv.take i) ∧ x.f < nxL ((minN r C f hd Q fin mv li).mv.take i)) ∧ (minN r C f hd Q fin mv li).li.Pairwise (fun a b => a.s < b.s) ∧ (minN r C f hd Q fin mv li).role = r.role
  | 0, hd, Q, fin, mv, li, _, hN, hL => ⟨hN.b, hN.a, hL.a, rfl⟩
  | f + 1, hd, Q, fin, mv, li, hq, hN, hL => by
    rw [minN]
    cases hc : Q[hd]? with
    | none => exact ⟨hN.b, hN.a, hL.a, rfl⟩
    | some c =>
      have hhd := (List.getElem?_eq_some_iff.1 hc).1
      obtain ⟨h1, h2, h3⟩ := row_num (C := C) (s := idxF C c) hS hhd (mget (limM r.li) (idxF C c : Nat)) hN hL
      exact minN_num hS f (hd + 1) _ _ _ _ (by omega) h1 h2
theorem minF_can2 {r : Mch} (hO : MOk r) : ∃ Q, (minF r).n = (Q.length : Nat) ∧ (minF r).s = 0 ∧ 1 ≤ Q.length ∧ Q.length ≤ r.n.toNat ∧ CanI r (cls r).1 (cls r).2 Q.length Q (minF r).fin (minF r).mv (minF r).li ∧ Q[0]? = (cls r).1[r.s.toNat]? := by
  obtain ⟨Q1, a1, a2, a3, a4, a5⟩ := minF_can hO
  have hC := cls_ok hO
  have hs := hO.s
  obtain ⟨c0, hc0⟩ := get_some (l := (cls r).1) (i := r.s.toNat) (by have := hC.cl; omega)
  have hc0b := hC.cb c0 (List.mem_of_getElem? hc0)
  have h0 : CanI r (cls r).1 (cls r).2 0 [c0] [] [] [] := ⟨⟨by simp, fun c hc => by rw [List.mem_singleton] at hc; omega⟩, by simp, rfl, rfl, fun i hi => (by omega), fun t ht => (by cases ht), fun i hi => (by omega)⟩
  have hn := hO.n
  have hcc := hC.cc
  obtain ⟨Q, h1, h2, h3, E, h4⟩ := minN_can hO hC.cl hC.cb 202 0 [c0] [] [] [] (by omega) h0
  have he : minN r (cls r).1 202 0 [c0] [] [] [] = minF r := by unfold minF; rw [getD_some hc0]
  rw [he] at h1 h2 h3
  have hl : Q.length = Q1.length := by rw [h1] at a1; omega
  exact ⟨Q, h1, h2, by omega, by omega, h3, by rw [h4, hc0]; rfl⟩
def evF (x : Hv) (y : Mv) : Bool := decide (y.send = x.send ∧ y.peer = x.peer ∧ y.label = x.label)
theorem find_filter (s : Int) (x : Hv) : ∀ l : List Mv, l.find? (hitF s x) = (l.filter fun y => y.f = s).find? (evF x)
  | [] => rfl
  | a :: l => by
    by_cases h : a.f = s
    · rw [List.filter_cons_of_pos (by simpa using h), List.find?_cons, List.find?_cons]
      have e : hitF s x a = evF x a := by unfold hitF evF; simp [h]
      rw [e, find_filter s x l]
    · rw [List.filter_cons_of_neg (by simpa using h), List.find?_cons]
      have e : hitF s x a = false := by unfold hitF; exact decide_eq_false fun hh => h hh.1
      rw [e]; exact find_filter s x l
theorem find_pair {α β : Type} {F : α → β} {p : α → Bool} (hp : ∀ a b, F a = F b → p a = p b) : ∀ (l1 l2 : List α), l1.map F = l2.map F → (l1.find? p = none ∧ l2.find? p = none) ∨ ∃ a b, l1.find? p = some a ∧ l2.find? p = some b ∧ F a = F b
  | [], [], _ => .inl ⟨rfl, rfl⟩
  | [], _ :: _, h => by cases h
  | _ :: _, [], h => by cases h
  | a :: l1, b :: l2, h => by
    rw [List.map_cons, List.map_cons, List.cons.injEq] at h
    rw [List.find?_cons, List.find?_cons, hp a b h.1]
    cases p b with
    | true => exact .inr ⟨a, b, rfl, rfl, h.1⟩
    | false => exact find_pair hp l1 l2 h.2
theorem cans {w : Mch} (hR : MRaw w) : Nonempty (CanS (minF w) w w.role) := by
  obtain ⟨Q, h1, h2, h3, h4, hc, hq0⟩ := minF_can2 hR.ok
  have hO := hR.ok
  have hn := hO.n
  have hs := hO.s
  have hfl := hO.fl
  have hC := cls_ok hO
  have hcl := hC.cl
  obtain ⟨N, hN1, hN2, hN3⟩ := cls_stable hO
  obtain ⟨n1, n2, n3, n4⟩ := minN_num (C := (cls w).1) hR.so 202 0 [(cls w).1.getD w.s.toNat 0] [] [] [] (by simp) ⟨fun i x hx => by simp at hx, rfl⟩ ⟨.nil, fun t ht => by cases ht⟩
  have hmin : minN w (cls w).1 202 0 [(cls w).1.getD w.s.toNat 0] [] [] [] = minF w := rfl
  rw [hmin] at n1 n2 n3 n4
  have hG := mgood hR
  have hrole : (minF w).role = w.role := n4
  refine ⟨{ gm := hG, gw := ⟨hn, hs, hfl, fun x hx => ?_, fun t ht => ?_, hR.so⟩, s0 := h2, nn := (by rw [h1]; omega), rm := hrole, rw_ := rfl, nx := fun i => nxL ((minF w).mv.take i), nx0 := rfl, nxs := fun i x hx => ?_, nxe := (by rw [List.take_length]; exact n1), nxb := fun i hi => ?_, li := n3, Rel := fun a b => (a = -1 ∧ b = -1) ∨ ∃ i j : Nat, a = i ∧ b = j ∧ i < Q.length ∧ j < w.n.toNat ∧ (cls w).1[j]? = Q[i]?, r0 := .inr ⟨0, w.s.toNat, by rw [h2]; rfl, by omega, by omega, by omega, hq0.symm⟩, rs := ?_, rn := ?_ }⟩
  · have := hO.mv x hx; omega
  · have h := hO.li t ht
    obtain ⟨y, hy, hyf⟩ := hR.l1 t ht
    exact ⟨h.1, h.2.1, h.2.2.1, h.2.2.2.1, y, hy, hyf⟩
  · refine ⟨(n2 i x hx).1, (n2 i x hx).2, ?_⟩
    show nxL ((minF w).mv.take (i + 1)) = _
    rw [take_snoc hx, nxL_snoc]
  · have h5 := nxL_take (minF w).mv i
    rw [n1, h1] at h5
    show 0 ≤ nxL ((minF w).mv.take i) ∧ nxL ((minF w).mv.take i) ≤ 200
    omega
  · intro a b hab ha
    rcases hab with ⟨e, _⟩ | ⟨i, j, rfl, rfl, hi, hj, hcj⟩
    · omega
    obtain ⟨c, hqc⟩ := get_some (l := Q) (i := i) hi
    rw [hqc] at hcj
    have hcC := List.mem_of_getElem? hcj
    have hrep : repQ (cls w).1 Q i = idxF (cls w).1 c := by unfold repQ; rw [getD_some hqc]
    have hsn : repQ (cls w).1 Q i < w.n.toNat := by rw [hrep]; have := idxF_lt hcC; omega
    have hcs : (cls w).1[repQ (cls w).1 Q i]? = some c := by rw [hrep]; exact idxF_get hcC
    have hkey := hN3 (repQ (cls w).1 Q i) j hsn hj (by rw [hcs, hcj])
    obtain ⟨p1, _, p3⟩ := keyS_parts hkey
    refine ⟨by omega, by rw [h1]; omega, by omega, ?_, fun x => ?_⟩
    · have e1 : (minF w).fin[i]? = some (w.fin.getD (repQ (cls w).1 Q i) false) := by rw [hc.pf, List.getElem?_map, List.getElem?_range hi]; rfl
      have e2 : w.fin.getD (repQ (cls w).1 Q i) false = w.fin.getD j false := by unfold sgB at p3; injection p3
      obtain ⟨f, hf⟩ := get_some (l := w.fin) (i := j) (by omega)
      show (minF w).fin[i]? = w.fin[j]?
      rw [e1, e2, getD_some hf, hf]
    · unfold nxtM
      rw [hrole]
      by_cases hx : x.role = w.role
      · rw [if_pos hx, if_pos hx, find_filter, find_filter, can_row hc hi, List.find?_map]
        have hcomp : (evF x ∘ mvQ (cls w).1 Q i) = evF x := rfl
        rw [hcomp]
        have hfp := find_pair (F := sgM (itC w N)) (p := evF x) (fun a b hab => by
          have he : a.ev = b.ev := by unfold sgM at hab; injection hab
          have e1 : a.send = b.send := congrArg Ev.send he
          have e2 : a.peer = b.peer := congrArg Ev.peer he
          have e3 : a.label = b.label := congrArg Ev.label he
          unfold evF; rw [e1, e2, e3]) _ _ p1
        show (_ ∨ _)
        have hwf : (w.mv.filter fun y => y.f = ((j : Nat) : Int)) = outM w j := rfl
        rw [hwf]
        rcases hfp with ⟨f1, f2⟩ | ⟨y1, y2, f1, f2, hyy⟩
        · rw [f1, f2]; exact .inl ⟨rfl, rfl⟩
        · rw [f1, f2]
          right
          have m1 := List.mem_of_find?_eq_some f1
          have m2 := List.mem_of_find?_eq_some f2
          have o1 := hO.mv y1 (outM_f m1).1
          have o2 := hO.mv y2 (outM_f m2).1
          have hD : (itC w N).getD y1.t.toNat 0 = (itC w N).getD y2.t.toNat 0 := by
            unfold sgM at hyy
            injection hyy with _ _ _ _ e5
            exact Int.ofNat.inj e5
          have hDl := itC_len w N
          obtain ⟨d1, hd1⟩ := get_some (l := itC w N) (i := y1.t.toNat) (by omega)
          obtain ⟨d2, hd2⟩ := get_some (l := itC w N) (i := y2.t.toNat) (by omega)
          rw [getD_some hd1, getD_some hd2] at hD
          have hCC : (cls w).1[y1.t.toNat]? = (cls w).1[y2.t.toNat]? := (hN2 _ _ (by omega) (by omega)).2 (by rw [hd1, hd2, hD])
          obtain ⟨c1, hc1⟩ := get_some (l := (cls w).1) (i := y1.t.toNat) (by omega)
          have hcQ := hc.pt i hi y1 m1
          rw [getD_some hc1] at hcQ
          refine ⟨idxF Q c1, y2.t.toNat, ?_, by show y2.t = _; omega, idxF_lt hcQ, by omega, by rw [← hCC, hc1, idxF_get hcQ]⟩
          show ((idxF Q ((cls w).1.getD y1.t.toNat 0) : Nat) : Int) = _
          rw [getD_some hc1]
      · rw [if_neg hx, if_neg hx]; exact .inl ⟨rfl, rfl⟩
  · intro a b hab hb
    rcases hab with ⟨_, e⟩ | ⟨i, j, rfl, rfl, _⟩ <;> omega
theorem raw_role {g : Gl} {role : Int} {m : Mch} (h : raw g role = (some m, 0)) : m.role = role := by
  unfold raw at h
  split at h
  · cases h
  · split at h
    · cases h
    · split at h
      · cases h
      · split at h
        · cases h
        · cases h; rfl
theorem projectCanonical (g : Gl) (role : Int) (s : Sl) (L : List Hv) (h : Heap) (hg : GI h g) (hx : Gx h) (hM : GNm g.ds) (hL : RL h 5 s Hv.cs L) :
    Fn Go.Proofs.Tryz.prog 6 #[g.v, .int .i64 role, .slice s.a s.n s.c] h fun v h' => v = .bool true ∧ Ext h h' := by
  refine canonical6 g role s L h hg hx hM hL fun w hw => ?_
  have hR := raw_raw hg.r.sm hg.d.r.sm hw
  obtain ⟨l1, l2⟩ := minF_lens hR
  have h1 := hR.ok.ml
  have h2 := hR.ok.ll
  have hc := cans hR
  rw [raw_role hw] at hc
  exact ⟨by omega, by omega, l1, l2, hc⟩
end Go.VC
end

section
/- What an automaton looks like in memory where all that is read is of bulk at most 1048576. -/
namespace Go.VC
open Go.Proofs Go.LexS Go.RowKit Go.ChangeShapes Go.WideShapes Go.Proofs.YtfdhgcladnbdeaaGreatDoor
set_option maxRecDepth 100000
theorem bulk_pos {H : Type} (d : DataW H) : 1 ≤ Rows.uptoBulk d := by
  cases d with
  | lit l => cases l <;> simp [Rows.uptoBulk]
  | _ => simp [Rows.uptoBulk]
theorem bulk_part {H : Type} : ∀ {l : List (DataW H)} {d : DataW H}, d ∈ l → Rows.uptoBulk d ≤ Rows.uptoBulkAll l
  | [], _, h => by cases h
  | x :: r, d, h => by
    rw [Rows.uptoBulkAll]
    rcases List.mem_cons.1 h with rfl | h
    · omega
    · have := bulk_part h; omega
theorem bulk_len {H : Type} : ∀ l : List (DataW H), l.length ≤ Rows.uptoBulkAll l
  | [] => by simp
  | x :: r => by
    have h1 := bulk_pos x
    have h2 := bulk_len r
    rw [Rows.uptoBulkAll, List.length_cons]; omega
/-- the cells cs read as type t, of bulk at most a million or so -/
def Rdb (P : Program) (W : World) (t : TypeId) (cs : List Value) : Prop :=
  ∃ (H : Type) (enc : TypeId × Value → H) (n : Nat) (x : DataW H × List MemPlace), DataW.trod enc P W 0 (fun _ => true) true n t cs = some x ∧ Rows.uptoBulk x.1 ≤ 1048576
theorem Rdb.rdt {P : Program} {W : World} {t : TypeId} {cs : List Value} (h : Rdb P W t cs) : Rdt P W t cs := by
  obtain ⟨H, enc, n, x, h1, _⟩ := h; exact ⟨H, enc, n, x, h1⟩
theorem rdb_of_trod {H : Type} {enc : TypeId × Value → H} {P : Program} {W : World} {t : TypeId} {v : Value} {d : DataW H} {p : List MemPlace} (h : DataW.Trod enc P W 0 (fun _ => true) true t v d p) (hw : Rows.uptoBulk d ≤ 1048576) : Rdb P W t v.cells.toList := by
  obtain ⟨n, h⟩ := h
  exact ⟨H, enc, n, _, h, hw⟩
theorem Rdb.field {P : Program} {W : World} {t ft : TypeId} {cs : List Value} {i off : Nat} (h : Rdb P W t cs) (hf : fieldAt P t i = some (ft, off)) : Rdb P W ft ((cs.drop off).take (P.cellsOf ft)) := by
  unfold fieldAt at hf
  split at hf
  · rename_i fs hu
    obtain ⟨f, h1, h2⟩ := Option.map_eq_some_iff.1 hf
    cases h2
    obtain ⟨H, enc, n, x, h, hw⟩ := h
    obtain ⟨xs, m, _, hx, hl, hxl, hfi⟩ := DataW.trod_struct hu h
    have hlt : i < xs.length := by rw [hxl]; exact (Array.getElem?_eq_some_iff.1 h1).1
    refine ⟨H, enc, m, xs[i], by rw [hfi i f h1, List.getElem?_eq_getElem hlt], ?_⟩
    rw [hx, Rows.uptoBulk] at hw
    have := bulk_part (l := xs.map (·.1)) (d := xs[i].1) (List.mem_map.2 ⟨xs[i], List.getElem_mem hlt, rfl⟩)
    omega
  · cases hf
theorem Rdb.array {P : Program} {W : World} {t e : TypeId} {n : Nat} {cs : List Value} (ht : P.underlying t = some (.array n e)) (h : Rdb P W t cs) :
    cs.length = P.cellsOf t ∧ ∀ i, i < n → Rdb P W e ((cs.drop (i * P.cellsOf e)).take (P.cellsOf e)) := by
  obtain ⟨H, enc, m, x, h, hw⟩ := h
  obtain ⟨xs, k, _, hx, hl, hxl, hf⟩ := DataW.trod_array ht h
  refine ⟨hl, fun i hi => ?_⟩
  have hlt : i < xs.length := by omega
  refine ⟨H, enc, k, xs[i], by rw [hf i hi, List.getElem?_eq_getElem hlt], ?_⟩
  rw [hx, Rows.uptoBulk] at hw
  have := bulk_part (l := xs.map (·.1)) (d := xs[i].1) (List.mem_map.2 ⟨xs[i], List.getElem_mem hlt, rfl⟩)
  omega
/-- a slice argument in memory: its rows -/
theorem Rdb.rows {P : Program} {W : World} {t e : TypeId} {cs : List Value} (ht : P.underlying t = some (.slice e)) (h : Rdb P W t cs) (hpos : 0 < P.cellsOf e) :
    ∃ (s : Sl) (rows : List (List Value)), cs = [.slice s.a s.n s.c] ∧ s.n ≤ s.c ∧ s.n ≤ 1048576 ∧ (s.a = none → s.n = 0 ∧ s.c = 0) ∧ Rw W.heap (P.cellsOf e) s rows ∧ ∀ r ∈ rows, r.length = P.cellsOf e ∧ Rdb P W e r := by
  obtain ⟨H, enc, n, x, h, hw⟩ := h
  rcases DataW.trod_slice ht h with ⟨rfl, _⟩ | ⟨a, len, cap, elems, rest, m, _, rfl, hx, _, hlc, hcm, hel, helem, _, _⟩
  · exact ⟨⟨none, 0, 0⟩, [], rfl, Nat.le_refl _, Nat.zero_le _, fun _ => ⟨rfl, rfl⟩, Rw.nil, fun r hr => by cases hr⟩
  · rw [hx, Rows.uptoBulk] at hw
    have hle : len ≤ 1048576 := by
      have := bulk_len (elems.map (·.1))
      rw [List.length_map] at this; omega
    have hwe : ∀ (i : Nat) (hi : i < elems.length), Rows.uptoBulk elems[i].1 ≤ 1048576 := fun i hi => by
      have := bulk_part (l := elems.map (·.1)) (d := elems[i].1) (List.mem_map.2 ⟨elems[i], List.getElem_mem hi, rfl⟩)
      omega
    by_cases h0 : len = 0
    · subst h0
      exact ⟨⟨some a, 0, cap⟩, [], rfl, hlc, hle, fun e => (by cases e), Rw.empty rfl, fun r hr => by cases hr⟩
    · have hrow : ∀ i, i < len → ∃ r, W.cells? 0 (a.add (i * P.cellsOf e)) (P.cellsOf e) = some r ∧ Rdb P W e r := by
        intro i hi
        have h1 := helem i hi
        rw [List.getElem?_eq_getElem (by omega)] at h1
        obtain ⟨r, hr, hx2⟩ := Option.bind_eq_some_iff.1 h1
        exact ⟨r, hr, H, enc, m, _, hx2, hwe i (by omega)⟩
      let row : Nat → List Value := fun i => (W.cells? 0 (a.add (i * P.cellsOf e)) (P.cellsOf e)).getD []
      have hrow' : ∀ i, i < len → W.cells? 0 (a.add (i * P.cellsOf e)) (P.cellsOf e) = some (row i) ∧ Rdb P W e (row i) := fun i hi => by
        obtain ⟨r, hr, hx⟩ := hrow i hi
        have : row i = r := by show (W.cells? 0 _ _).getD [] = r; rw [hr]; rfl
        rw [this]; exact ⟨hr, hx⟩
      have hget : ∀ i, i < len → ((List.range len).map row)[i]? = some (row i) := fun i hi => by
        rw [List.getElem?_map, List.getElem?_range hi]; rfl
      have hspot : a = ⟨a.block, a.off, none⟩ := by
        have hc := (cells_at (hrow' 0 (by omega)).1)
        have hl0 : 0 < (row 0).length := by rw [hc.1]; exact hpos
        have := hc.2 0 _ (List.getElem?_eq_getElem hl0)
        rw [Nat.zero_mul, show (a.add 0).add 0 = a from rfl] at this
        unfold World.cell? at this
        split at this
        · split at this
          · cases this
          · rename_i hs
            cases a with
            | mk b o s =>
              cases s with
              | none => rfl
              | some s => exact absurd rfl hs
        · cases this
      refine ⟨⟨some a, len, cap⟩, (List.range len).map row, rfl, hlc, hle, fun e => (by cases e), ⟨by simp, fun _ => ⟨a.block, a.off, by rw [← hspot], fun i r hi j v hj => ?_⟩⟩, fun r hr => ?_⟩
      · have hil : i < len := by have := (List.getElem?_eq_some_iff.1 hi).1; simpa using this
        rw [hget i hil] at hi; cases hi
        have h4 := (cells_at (hrow' i hil).1).2 _ _ hj
        rw [hspot] at h4
        have e : ((⟨a.block, a.off, none⟩ : Addr).add (i * P.cellsOf e)).add j = addk ⟨a.block, a.off + i * P.cellsOf e, none⟩ j := by
          rw [addk_at, add_n, add_n]
        rw [e] at h4
        exact h4
      · obtain ⟨i, hi, rfl⟩ := List.mem_map.1 hr
        have := hrow' i (List.mem_range.1 hi)
        exact ⟨(cells_at this.1).1, this.2⟩
/-- .. as a list -/
theorem Rdb.list {α : Type} {P : Program} {W : World} {t e : TypeId} {k : Nat} {v : Value} {cs : α → List Value} {Q : α → Prop} (ht : P.underlying t = some (.slice e)) (hk : P.cellsOf e = k) (hpos : 0 < k)
    (ho : ∀ r, Rdb P W e r → ∃ x, r = cs x ∧ Q x) (h : Rdb P W t [v]) : ∃ (s : Sl) (L : List α), v = .slice s.a s.n s.c ∧ RL W.heap k s cs L ∧ ∀ x ∈ L, Q x := by
  subst hk
  obtain ⟨s, rows, e1, hc, hm, hna, hrw, hr⟩ := h.rows ht hpos
  have key : ∀ rows : List (List Value), (∀ r ∈ rows, r.length = P.cellsOf e ∧ Rdb P W e r) → ∃ L : List α, rows = L.map cs ∧ ∀ x ∈ L, Q x := by
    intro rows
    induction rows with
    | nil => intro _; exact ⟨[], rfl, fun x hx => by cases hx⟩
    | cons r rows ih =>
      intro h
      obtain ⟨x, hx, hq⟩ := ho r (h r (by simp)).2
      obtain ⟨L, hL, hQ⟩ := ih fun y hy => h y (List.mem_cons_of_mem _ hy)
      exact ⟨x :: L, by rw [hx, hL]; rfl, fun y hy => by rcases List.mem_cons.1 hy with rfl | hy; exact hq; exact hQ y hy⟩
  obtain ⟨L, rfl, hQ⟩ := key rows hr
  have hn := hrw.ln
  exact ⟨s, L, by simpa using e1, ⟨hrw, hc, hna, by omega⟩, hQ⟩
theorem v3 : Tryz.prog.underlying 3 = some (.int .i64) := by kernel_rfl
theorem v4b : Tryz.prog.underlying 4 = some .bool := by kernel_rfl
theorem v9 : Tryz.prog.underlying 9 = some .string := by kernel_rfl
theorem cz3 : Tryz.prog.cellsOf 3 = 1 := by kernel_rfl
theorem cz4 : Tryz.prog.cellsOf 4 = 1 := by kernel_rfl
theorem cz9 : Tryz.prog.cellsOf 9 = 1 := by kernel_rfl
theorem cz22 : Tryz.prog.cellsOf 22 = 1 := by kernel_rfl
theorem cz23 : Tryz.prog.cellsOf 23 = 1 := by kernel_rfl
theorem cz24 : Tryz.prog.cellsOf 24 = 1 := by kernel_rfl
theorem cz25 : Tryz.prog.cellsOf 25 = 1 := by kernel_rfl
theorem cz27 : Tryz.prog.cellsOf 27 = 8 := by kernel_rfl
theorem cz53 : Tryz.prog.cellsOf 53 = 3 := by kernel_rfl
theorem cz55 : Tryz.prog.cellsOf 55 = 6 := by kernel_rfl
theorem cz63 : Tryz.prog.cellsOf 63 = 3 := by kernel_rfl
theorem cz130 : Tryz.prog.cellsOf 130 = 1 := by kernel_rfl
theorem cz131 : Tryz.prog.cellsOf 131 = 1 := by kernel_rfl
theorem cz132 : Tryz.prog.cellsOf 132 = 1 := by kernel_rfl
theorem cz134 : Tryz.prog.cellsOf 134 = 2 := by kernel_rfl
theorem cz136 : Tryz.prog.cellsOf 136 = 5 := by kernel_rfl
theorem cz182 : Tryz.prog.cellsOf 182 = 3 := by kernel_rfl
theorem cz184 : Tryz.prog.cellsOf 184 = 4 := by kernel_rfl
theorem cz187 : Tryz.prog.cellsOf 187 = 3 := by kernel_rfl
theorem cz189 : Tryz.prog.cellsOf 189 = 2 := by kernel_rfl
theorem vs22 : Tryz.prog.underlying 22 = some (.slice 9) := by kernel_rfl
theorem vs23 : Tryz.prog.underlying 23 = some (.slice 136) := by kernel_rfl
theorem vs24 : Tryz.prog.underlying 24 = some (.slice 55) := by kernel_rfl
theorem vs25 : Tryz.prog.underlying 25 = some (.slice 63) := by kernel_rfl
theorem vs130 : Tryz.prog.underlying 130 = some (.slice 184) := by kernel_rfl
theorem vs131 : Tryz.prog.underlying 131 = some (.slice 187) := by kernel_rfl
theorem vs132 : Tryz.prog.underlying 132 = some (.slice 189) := by kernel_rfl
theorem va189 : Tryz.prog.underlying 189 = some (.array 2 3) := by kernel_rfl
theorem Rdb.str {P : Program} {W : World} {t : TypeId} {cs : List Value} (ht : P.underlying t = some .string) (h : Rdb P W t cs) : ∃ s : ByteArray, cs = [.string s] ∧ s.size ≤ 1048576 := by
  obtain ⟨H, enc, n, x, h, hw⟩ := h
  obtain ⟨m, h1, hx, _⟩ := DataW.trod_string ht h
  refine ⟨m, h1, ?_⟩
  rw [hx, Rows.uptoBulk] at hw
  have e : m.data.toList.length = m.size := rfl
  omega
theorem Rdb.sl {P : Program} {W : World} {t e : TypeId} {cs : List Value} (ht : P.underlying t = some (.slice e)) (h : Rdb P W t cs) : ∃ s : Sl, cs = [.slice s.a s.n s.c] := by
  obtain ⟨H, enc, n, x, h, _⟩ := h
  rcases DataW.trod_slice ht h with ⟨rfl, _⟩ | ⟨a, len, cap, elems, rest, m, _, rfl, _⟩
  · exact ⟨⟨none, 0, 0⟩, rfl⟩
  · exact ⟨⟨some a, len, cap⟩, rfl⟩
theorem open_name {W : World} {r : List Value} (h : Rdb Tryz.prog W 9 r) : ∃ x : Nm, r = nmC x ∧ True := by
  obtain ⟨s, e, _⟩ := h.rdt.str v9
  exact ⟨s.data.toList, by rw [e]; rfl, trivial⟩
theorem open_field {W : World} {r : List Value} (h : Rdb Tryz.prog W 184 r) : ∃ x : Fld, r = x.cs ∧ True := by
  have hl := h.rdt.flen (i := 0) (ft := 9) (off := 0) (by kernel_rfl)
  rw [cz184] at hl
  match r, hl with
  | [x0, x1, x2, x3], _ =>
    have f0 := h.rdt.field (i := 0) (ft := 9) (off := 0) (by kernel_rfl)
    have f1 := h.rdt.field (i := 1) (ft := 182) (off := 1) (by kernel_rfl)
    rw [cz9] at f0
    rw [cz182] at f1
    have g0 := f1.field (i := 0) (ft := 3) (off := 0) (by kernel_rfl)
    have g1 := f1.field (i := 1) (ft := 3) (off := 1) (by kernel_rfl)
    have g2 := f1.field (i := 2) (ft := 3) (off := 2) (by kernel_rfl)
    rw [cz3] at g0 g1 g2
    obtain ⟨s, e0, _⟩ := f0.str v9
    obtain ⟨k1, e1, _⟩ := g0.int v3
    obtain ⟨k2, e2, _⟩ := g1.int v3
    obtain ⟨k3, e3, _⟩ := g2.int v3
    simp only [List.drop_zero, List.take_succ_cons, List.take_zero, List.drop_succ_cons, List.cons.injEq, and_true] at e0 e1 e2 e3
    subst e0 e1 e2 e3
    exact ⟨⟨s.data.toList, k1, k2, k3⟩, rfl, trivial⟩
theorem open_three {W : World} {t : TypeId} {r : List Value} (hc : Tryz.prog.cellsOf t = 3) (h0 : fieldAt Tryz.prog t 0 = some (3, 0)) (h1 : fieldAt Tryz.prog t 1 = some (3, 1)) (h2 : fieldAt Tryz.prog t 2 = some (3, 2)) (h : Rdt Tryz.prog W t r) :
    ∃ a b c : Int, r = [.int .i64 a, .int .i64 b, .int .i64 c] := by
  have hl := h.flen h0
  rw [hc] at hl
  match r, hl with
  | [x0, x1, x2], _ =>
    have f0 := h.field h0
    have f1 := h.field h1
    have f2 := h.field h2
    rw [cz3] at f0 f1 f2
    obtain ⟨k0, e0, _⟩ := f0.int v3
    obtain ⟨k1, e1, _⟩ := f1.int v3
    obtain ⟨k2, e2, _⟩ := f2.int v3
    simp only [List.drop_zero, List.take_succ_cons, List.take_zero, List.drop_succ_cons, List.cons.injEq, and_true] at e0 e1 e2
    subst e0 e1 e2
    exact ⟨k0, k1, k2, rfl⟩
theorem open_diff {W : World} {r : List Value} (h : Rdb Tryz.prog W 187 r) : ∃ x : Df, r = x.cs ∧ True := by
  obtain ⟨a, b, c, e⟩ := open_three cz187 (by kernel_rfl) (by kernel_rfl) (by kernel_rfl) h.rdt
  exact ⟨⟨a, b, c⟩, e, trivial⟩
theorem open_timeout {W : World} {r : List Value} (h : Rdb Tryz.prog W 63 r) : ∃ x : To, r = x.cs ∧ True := by
  obtain ⟨a, b, c, e⟩ := open_three cz63 (by kernel_rfl) (by kernel_rfl) (by kernel_rfl) h.rdt
  exact ⟨⟨a, b, c⟩, e, trivial⟩
theorem open_pair {W : World} {r : List Value} (h : Rdb Tryz.prog W 189 r) : ∃ x : Eqs, r = x.cs ∧ True := by
  obtain ⟨hl, ha⟩ := h.rdt.array va189
  rw [cz189] at hl
  rw [cz3] at ha
  match r, hl with
  | [x0, x1], _ =>
    obtain ⟨k0, e0, _⟩ := (ha 0 (by omega)).int v3
    obtain ⟨k1, e1, _⟩ := (ha 1 (by omega)).int v3
    simp only [Nat.zero_mul, Nat.one_mul, List.drop_zero, List.take_succ_cons, List.take_zero, List.drop_succ_cons, List.cons.injEq, and_true] at e0 e1
    subst e0 e1
    exact ⟨⟨k0, k1⟩, rfl, trivial⟩
theorem open_edge {W : World} {r : List Value} (h : Rdb Tryz.prog W 55 r) : ∃ x : Ed, r = x.cs ∧ True := by
  have hl := h.rdt.flen (i := 0) (ft := 3) (off := 0) (by kernel_rfl)
  rw [cz55] at hl
  match r, hl with
  | [x0, x1, x2, x3, x4, x5], _ =>
    have f0 := h.rdt.field (i := 0) (ft := 3) (off := 0) (by kernel_rfl)
    have f1 := h.rdt.field (i := 1) (ft := 53) (off := 1) (by kernel_rfl)
    have f2 := h.rdt.field (i := 2) (ft := 3) (off := 4) (by kernel_rfl)
    have f3 := h.rdt.field (i := 3) (ft := 4) (off := 5) (by kernel_rfl)
    rw [cz3] at f0 f2
    rw [cz53] at f1
    rw [cz4] at f3
    obtain ⟨a, b, c, e1⟩ := open_three cz53 (by kernel_rfl) (by kernel_rfl) (by kernel_rfl) f1
    obtain ⟨k0, e0, _⟩ := f0.int v3
    obtain ⟨k2, e2, _⟩ := f2.int v3
    obtain ⟨k3, e3⟩ := f3.bool v4b
    simp only [List.drop_zero, List.take_succ_cons, List.take_zero, List.drop_succ_cons, List.cons.injEq, and_true] at e0 e1 e2 e3
    obtain ⟨e1a, e1b, e1c⟩ := e1
    subst e0 e1a e1b e1c e2 e3
    exact ⟨⟨k0, a, b, c, k2, k3⟩, rfl, trivial⟩
theorem open_decl {W : World} {r : List Value} (h : Rdb Tryz.prog W 136 r) : ∃ x : Dc, r = x.cs ∧ DI W.heap x ∧ x.nm.length ≤ 1048576 := by
  have hl := h.rdt.flen (i := 0) (ft := 9) (off := 0) (by kernel_rfl)
  rw [cz136] at hl
  match r, hl with
  | [x0, x1, x2, x3, x4], _ =>
    have f0 := h.field (i := 0) (ft := 9) (off := 0) (by kernel_rfl)
    have f1 := h.field (i := 1) (ft := 130) (off := 1) (by kernel_rfl)
    have f2 := h.rdt.field (i := 2) (ft := 3) (off := 2) (by kernel_rfl)
    have f3 := h.field (i := 3) (ft := 134) (off := 3) (by kernel_rfl)
    rw [cz9] at f0
    rw [cz130] at f1
    rw [cz3] at f2
    rw [cz134] at f3
    have g0 := f3.field (i := 0) (ft := 131) (off := 0) (by kernel_rfl)
    have g1 := f3.field (i := 1) (ft := 132) (off := 1) (by kernel_rfl)
    rw [cz131] at g0
    rw [cz132] at g1
    obtain ⟨s, e0, hs0⟩ := f0.str v9
    obtain ⟨sf, fs, e1, hf, _⟩ := Rdb.list vs130 cz184 (by omega) (fun r hr => open_field hr) f1
    obtain ⟨k, e2, _⟩ := f2.int v3
    obtain ⟨sd, ds, e3, hd, _⟩ := Rdb.list vs131 cz187 (by omega) (fun r hr => open_diff hr) g0
    obtain ⟨se, es, e4, he, _⟩ := Rdb.list vs132 cz189 (by omega) (fun r hr => open_pair hr) g1
    simp only [List.drop_zero, List.take_succ_cons, List.take_zero, List.drop_succ_cons, List.cons.injEq, and_true] at e0 e2
    subst e0 e1 e2 e3 e4
    exact ⟨⟨s.data.toList, sf, k, sd, se, fs, ds, es⟩, rfl, ⟨hf, hd, he⟩, hs0⟩
theorem open_global {W : World} {cs : List Value} (h : Rdb Tryz.prog W 27 cs) : ∃ g : Gl, cs = g.cs ∧ GI W.heap g ∧ ∀ d ∈ g.ds, d.nm.length ≤ 1048576 := by
  have hl := h.rdt.flen (i := 0) (ft := 9) (off := 0) (by kernel_rfl)
  rw [cz27] at hl
  match cs, hl with
  | [x0, x1, x2, x3, x4, x5, x6, x7], _ =>
    have f0 := h.rdt.field (i := 0) (ft := 9) (off := 0) (by kernel_rfl)
    have f1 := h.field (i := 1) (ft := 22) (off := 1) (by kernel_rfl)
    have f2 := h.field (i := 2) (ft := 23) (off := 2) (by kernel_rfl)
    have f3 := h.rdt.field (i := 3) (ft := 3) (off := 3) (by kernel_rfl)
    have f4 := h.rdt.field (i := 4) (ft := 3) (off := 4) (by kernel_rfl)
    have f5 := h.rdt.field (i := 5) (ft := 3) (off := 5) (by kernel_rfl)
    have f6 := h.field (i := 6) (ft := 24) (off := 6) (by kernel_rfl)
    have f7 := h.field (i := 7) (ft := 25) (off := 7) (by kernel_rfl)
    rw [cz9] at f0
    rw [cz22] at f1
    rw [cz23] at f2
    rw [cz3] at f3 f4 f5
    rw [cz24] at f6
    rw [cz25] at f7
    obtain ⟨s, e0, _⟩ := f0.str v9
    obtain ⟨sr, rs, e1, hr, _⟩ := Rdb.list vs22 cz9 (by omega) (fun r hr => open_name hr) f1
    obtain ⟨sd, ds, e2, hd, hdi⟩ := Rdb.list vs23 cz136 (by omega) (fun r hr => open_decl hr) f2
    obtain ⟨k3, e3, _⟩ := f3.int v3
    obtain ⟨k4, e4, _⟩ := f4.int v3
    obtain ⟨k5, e5, _⟩ := f5.int v3
    obtain ⟨se, es, e6, he, _⟩ := Rdb.list vs24 cz55 (by omega) (fun r hr => open_edge hr) f6
    obtain ⟨st, ts, e7, ht, _⟩ := Rdb.list vs25 cz63 (by omega) (fun r hr => open_timeout hr) f7
    simp only [List.drop_zero, List.take_succ_cons, List.take_zero, List.drop_succ_cons, List.cons.injEq, and_true] at e0 e3 e4 e5
    subst e0 e1 e2 e3 e4 e5 e6 e7
    exact ⟨⟨s.data.toList, sr, sd, k3, k4, k5, se, st, rs, ds, es, ts⟩, rfl, ⟨hr, ⟨hd, fun d hm => (hdi d hm).1⟩, he, ht⟩, fun d hm => (hdi d hm).2⟩
theorem cz58 : Tryz.prog.cellsOf 58 = 1 := by kernel_rfl
theorem cz60 : Tryz.prog.cellsOf 60 = 5 := by kernel_rfl
theorem vs56 : Tryz.prog.underlying 56 = some (.slice 60) := by kernel_rfl
theorem vs58 : Tryz.prog.underlying 58 = some (.slice 427) := by kernel_rfl
end Go.VC
end

section
/- What a history looks like in memory. -/
namespace Go.VC
open Go.Proofs Go.LexS Go.RowKit Go.ChangeShapes Go.WideShapes Go.Proofs.YtfdhgcladnbdeaaGreatDoor
set_option maxRecDepth 100000
theorem open_event {W : World} {r : List Value} (h : Rdb Tryz.prog W 60 r) : ∃ x : Hv, r = x.cs ∧ True := by
  have hl := h.rdt.flen (i := 0) (ft := 3) (off := 0) (by kernel_rfl)
  rw [cz60] at hl
  match r, hl with
  | [x0, x1, x2, x3, x4], _ =>
    have f0 := h.rdt.field (i := 0) (ft := 3) (off := 0) (by kernel_rfl)
    have f1 := h.rdt.field (i := 1) (ft := 4) (off := 1) (by kernel_rfl)
    have f2 := h.rdt.field (i := 2) (ft := 3) (off := 2) (by kernel_rfl)
    have f3 := h.rdt.field (i := 3) (ft := 3) (off := 3) (by kernel_rfl)
    have f4 := h.field (i := 4) (ft := 58) (off := 4) (by kernel_rfl)
    rw [cz3] at f0 f2 f3
    rw [cz4] at f1
    rw [cz58] at f4
    obtain ⟨k0, e0, _⟩ := f0.int v3
    obtain ⟨k1, e1⟩ := f1.bool v4b
    obtain ⟨k2, e2, _⟩ := f2.int v3
    obtain ⟨k3, e3, _⟩ := f3.int v3
    obtain ⟨s, e4⟩ := f4.sl vs58
    simp only [List.drop_zero, List.take_succ_cons, List.take_zero, List.drop_succ_cons, List.cons.injEq, and_true] at e0 e1 e2 e3 e4
    subst e0 e1 e2 e3 e4
    exact ⟨⟨k0, k1, k2, k3, s⟩, rfl, trivial⟩
theorem open_events {W : World} {v : Value} (h : Rdb Tryz.prog W 56 [v]) : ∃ (s : Sl) (L : List Hv), v = .slice s.a s.n s.c ∧ RL W.heap 5 s Hv.cs L := by
  obtain ⟨s, L, e, hr, _⟩ := Rdb.list vs56 cz60 (by omega) (fun r hr => open_event hr) h
  exact ⟨s, L, e, hr⟩
end Go.VC
end
