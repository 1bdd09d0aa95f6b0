/- QjT0 QjX0 QjVcD QjVcA QjA. -/
import Derived.Test.YtkebghjhekoecaaGreatDoorM05
import Derived.Test.YtkebghjhekoecaaGreatDoorM06
import Derived.Test.YtkebghjhekoecaaGreatDoorM01
import Derived.Test.YtkebghjhekoecaaGreatDoorM02
import Derived.Test.YtkebghjhekoecaaGreatDoorProg
import Derived.KernelRfl
import Derived.Lib.Split
set_option linter.unusedVariables false
set_option linter.unusedSimpArgs false
set_option maxRecDepth 100000

section
/- Classes of states, on lists. No program here. -/
namespace Go.VC

def dedF {K : Type} [DecidableEq K] (l : List K) : List K := l.foldl (fun a k => if k ∈ a then a else a ++ [k]) []
def idxF {K : Type} [DecidableEq K] : List K -> K -> Nat
 | [], _ => 0
 | x :: r, k => if x = k then 0 else idxF r k + 1
def canonL {K : Type} [DecidableEq K] (l : List K) : List Nat := l.map (idxF (dedF l))
section
variable {K K' : Type} [DecidableEq K] [DecidableEq K']
theorem dedF_snoc (l : List K) (k : K) : dedF (l ++ [k]) = if k ∈ dedF l then dedF l else dedF l ++ [k] := by unfold dedF; rw [List.foldl_append]; rfl
theorem dedF_take {l : List K} {i : Nat} {k : K} (h : l[i]? = some k) : dedF (l.take (i + 1)) = if k ∈ dedF (l.take i) then dedF (l.take i) else dedF (l.take i) ++ [k] := by rw [take_snoc h, dedF_snoc]
theorem dedF_mem (l : List K) (k : K) : k ∈ dedF l ↔ k ∈ l := by
 suffices h : ∀ (m a : List K), k ∈ m.foldl (fun a k => if k ∈ a then a else a ++ [k]) a ↔ k ∈ a \/ k ∈ m by have := h l []; simpa [dedF] using this
 intro m
 induction m with
 | nil => intro a; simp
 | cons x r ih =>
  intro a
  rw [List.foldl_cons, ih]
  split
  ·
   rename_i hx
   rw [Yr]
   constructor
   ·
    rintro (h | h)
    ·
     exact .inl h
    ·
     exact .inr (.inr h)
   ·
    rintro (h | rfl | h)
    ·
     exact .inl h
    ·
     exact .inl hx
    ·
     exact .inr h
  ·
   rw [Yk, Ye, Yr]
   constructor
   ·
    rintro ((h | h) | h)
    ·
     exact .inl h
    ·
     exact .inr (.inl h)
    ·
     exact .inr (.inr h)
   ·
    rintro (h | h | h)
    ·
     exact .inl (.inl h)
    ·
     exact .inl (.inr h)
    ·
     exact .inr h
theorem idxF_mem {l : List K} {k : K} (h : k ∈ l) (m : List K) : idxF (l ++ m) k = idxF l k := by
 induction l with
 | nil => cases h
 | cons x r ih =>
  rw [List.cons_append, idxF, idxF]
  split
  ·
   rfl
  ·
   rename_i hx
   rw [ih (by rcases Yr.1 h with h | h; exact absurd h.symm hx; exact h)]
theorem idxF_not {l : List K} {k : K} (h : k ∉ l) : idxF l k = l.length := by
 induction l with
 | nil => rfl
 | cons x r ih =>
  rw [Yr, not_or] at h
  rw [idxF, if_neg (fun e => h.1 e.symm), ih h.2, Yyj]
theorem idxF_lt {l : List K} {k : K} (h : k ∈ l) : idxF l k < l.length := by
 induction l with
 | nil => cases h
 | cons x r ih =>
  rw [idxF, Yyj]
  split
  ·
   omega
  ·
   rename_i hx
   have := ih (by rcases Yr.1 h with h | h; exact absurd h.symm hx; exact h)
   omega
theorem idxF_inj {l : List K} {a b : K} (ha : a ∈ l) (h : idxF l a = idxF l b) : a = b := by
 induction l with
 | nil => cases ha
 | cons x r ih =>
  rw [idxF, idxF] at h
  split at h <;> split at h
  ·
   rename_i h1 h2; rw [<- h1, <- h2]
  ·
   omega
  ·
   omega
  ·
   rename_i h1 _
   exact ih (by rcases Yr.1 ha with h | h; exact absurd h.symm h1; exact h) (by omega)
theorem canon_pat {l : List K} {l' : List K'} (hl : l.length = l'.length) (hp : ∀ (i j : Nat) (a b : K) (a' b' : K'), l[i]? = some a -> l[j]? = some b -> l'[i]? = some a' -> l'[j]? = some b' -> (a = b ↔ a' = b')) :
  ∀ n, n <= l.length -> (dedF (l.take n)).length = (dedF (l'.take n)).length /\ ∀ (j : Nat) (a : K) (a' : K'), j < n -> l[j]? = some a -> l'[j]? = some a' -> idxF (dedF (l.take n)) a = idxF (dedF (l'.take n)) a'
 | 0, _ => ⟨rfl, fun j _ _ hj => by omega⟩
 | n + 1, hn => by
  obtain ⟨h1, h2⟩ := canon_pat hl hp n (by omega)
  obtain ⟨x, hx⟩ := get_some (l := l) (i := n) (by omega)
  obtain ⟨x', hx'⟩ := get_some (l := l') (i := n) (by omega)
  have hmem : x ∈ dedF (l.take n) ↔ x' ∈ dedF (l'.take n) := by
   rw [dedF_mem, dedF_mem]
   constructor
   ·
    intro h
    obtain ⟨j, hj⟩ := Yf.1 h
    have hjn : j < n := by have := (Ya.1 hj).1; rw [Yu] at this; omega
    rw [Yyf, if_pos hjn] at hj
    obtain ⟨y', hy'⟩ := get_some (l := l') (i := j) (by omega)
    have := (hp j n x x y' x' hj hx hy' hx').1 rfl
    subst this
    exact Yb (i := j) (by rw [Yyf, if_pos hjn]; exact hy')
   ·
    intro h
    obtain ⟨j, hj⟩ := Yf.1 h
    have hjn : j < n := by have := (Ya.1 hj).1; rw [Yu] at this; omega
    rw [Yyf, if_pos hjn] at hj
    obtain ⟨y, hy⟩ := get_some (l := l) (i := j) (by omega)
    have := (hp j n y x x' x' hy hx hj hx').2 rfl
    subst this
    exact Yb (i := j) (by rw [Yyf, if_pos hjn]; exact hy)
  rw [dedF_take hx, dedF_take hx']
  by_cases hm : x ∈ dedF (l.take n)
  ·
   rw [if_pos hm, if_pos (hmem.1 hm)]
   refine ⟨h1, fun j a a' hj ha ha' => ?_⟩
   by_cases e : j = n
   ·
    subst e
    rw [hx] at ha; cases ha
    rw [hx'] at ha'; cases ha'
    obtain ⟨i, hi⟩ := Yf.1 ((dedF_mem _ _).1 hm)
    have hin : i < j := by have := (Ya.1 hi).1; rw [Yu] at this; omega
    rw [Yyf, if_pos hin] at hi
    obtain ⟨y', hy'⟩ := get_some (l := l') (i := i) (by omega)
    have := (hp i j x x y' x' hi hx hy' hx').1 rfl
    rw [h2 i x y' hin hi hy', this]
   ·
    exact h2 j a a' (by omega) ha ha'
  ·
   rw [if_neg hm, if_neg (fun h => hm (hmem.2 h))]
   refine ⟨by rw [Yh, Yh, h1]; rfl, fun j a a' hj ha ha' => ?_⟩
   by_cases e : j = n
   ·
    subst e
    rw [hx] at ha; cases ha
    rw [hx'] at ha'; cases ha'
    have key : ∀ {K : Type} [DecidableEq K] {l : List K} {k : K}, k ∉ l -> idxF (l ++ [k]) k = l.length := by
     intro K _ l k h
     induction l with
     | nil => rw [List.nil_append, idxF, if_pos rfl]; rfl
     | cons x r ih =>
      rw [Yr, not_or] at h
      rw [List.cons_append, idxF, if_neg (fun e => h.1 e.symm), ih h.2, Yyj]
    rw [key hm, key (fun h => hm (hmem.2 h)), h1]
   ·
    have hmj : ∀ {K : Type} [DecidableEq K] {l : List K} {a : K}, l[j]? = some a -> a ∈ dedF (l.take n) := fun h => (dedF_mem _ _).2 (Yb (i := j) (by rw [Yyf, if_pos (by omega)]; exact h))
    rw [idxF_mem (hmj ha), idxF_mem (hmj ha')]
    exact h2 j a a' (by omega) ha ha'
theorem canon_eq {l : List K} {l' : List K'} (hl : l.length = l'.length) (hp : ∀ (i j : Nat) (a b : K) (a' b' : K'), l[i]? = some a -> l[j]? = some b -> l'[i]? = some a' -> l'[j]? = some b' -> (a = b ↔ a' = b')) : canonL l = canonL l' /\ (dedF l).length = (dedF l').length := by
 have h := canon_pat hl hp l.length (Nat.le_refl _)
 rw [Yye, hl, Yye] at h
 refine ⟨?_, h.1⟩
 apply List.ext_getElem?
 intro j
 unfold canonL
 rw [Yd, Yd]
 by_cases hj : j < l.length
 ·
  obtain ⟨a, ha⟩ := get_some (l := l) (i := j) hj
  obtain ⟨a', ha'⟩ := get_some (l := l') (i := j) (by omega)
  rw [ha, ha', Option.map_some, Option.map_some, h.2 j a a' (by omega) ha ha']
 ·
  rw [Yl (by omega), Yl (by omega)]; rfl
theorem canonL_len (l : List K) : (canonL l).length = l.length := Yc _
theorem canonL_get {l : List K} {i : Nat} {k : K} (h : l[i]? = some k) : (canonL l)[i]? = some (idxF (dedF l) k) := by unfold canonL; rw [Yd, h]; rfl
theorem canonL_lt {l : List K} {c : Nat} (h : c ∈ canonL l) : c < (dedF l).length := by
 obtain ⟨k, hk, rfl⟩ := Yp.1 h
 exact idxF_lt ((dedF_mem _ _).2 hk)
theorem canonL_eq {l : List K} {i j : Nat} {a b : K} (ha : l[i]? = some a) (hb : l[j]? = some b) : (canonL l)[i]? = (canonL l)[j]? ↔ a = b := by
 rw [canonL_get ha, canonL_get hb]
 constructor
 ·
  intro h
  exact idxF_inj ((dedF_mem _ _).2 (Yb ha)) (Option.some.inj h)
 ·
  intro h; rw [h]
theorem dedF_canon (l : List K) : (dedF (canonL l)).length = (dedF l).length := by
 refine (canon_eq (canonL_len l) fun i j a b a' b' h1 h2 h3 h4 => ?_).2
 have := canonL_eq h3 h4
 rw [h1, h2] at this
 rw [<- this]
 exact ⟨fun h => by rw [h], fun h => Option.some.inj h⟩
theorem dedF_map_le (f : K -> K') (l : List K) : (dedF (l.map f)).length <= (dedF l).length := by
 have key : ∀ n, n <= l.length -> (dedF ((l.map f).take n)).length <= (dedF (l.take n)).length := by
  intro n
  induction n with
  | zero => intro _; exact Nat.le_refl _
  | succ n ih =>
   intro hn
   obtain ⟨x, hx⟩ := get_some (l := l) (i := n) (by omega)
   rw [dedF_take hx, dedF_take (l := l.map f) (k := f x) (by rw [Yd, hx]; rfl)]
   have := ih (by omega)
   by_cases hm : x ∈ dedF (l.take n)
   ·
    have : f x ∈ dedF ((l.map f).take n) := by
     rw [dedF_mem, <- List.map_take]
     exact Yp.2 ⟨x, (dedF_mem _ _).1 hm, rfl⟩
    rw [if_pos hm, if_pos this]; omega
   ·
    rw [if_neg hm, Yh]
    split
    ·
     omega
    ·
     rw [Yh]; simp only [Yv]; omega
 have := key l.length (Nat.le_refl _)
 rwa [Yye, Yj (by rw [Yc]; exact Nat.le_refl _)] at this
theorem dedF_len_le (l : List K) : (dedF l).length <= l.length := by
 have key : ∀ n, n <= l.length -> (dedF (l.take n)).length <= n := by
  intro n
  induction n with
  | zero => intro _; exact Nat.le_refl _
  | succ n ih =>
   intro hn
   obtain ⟨x, hx⟩ := get_some (l := l) (i := n) (by omega)
   rw [dedF_take hx]
   have := ih (by omega)
   split
   ·
    omega
   ·
    rw [Yh]; simp only [Yv]; omega
 have := key l.length (Nat.le_refl _)
 rwa [Yye] at this
end
structure Sg where
 b : Int
 k : Int
 x : Ev
 ag : Bool
 num : Int
 deriving DecidableEq
def Sg.v (s : Sg) : Value := .agg ⟨[.int .i64 s.b, .int .i64 s.k, .bool s.x.send, .int .i64 s.x.peer, .int .i64 s.x.label, .bool s.ag, .int .i64 s.num]⟩
theorem Sg.v_inj (a b : Sg) (h : a.v = b.v) : a = b := by
 obtain ⟨a1, a2, ⟨a3, a4, a5⟩, a6, a7⟩ := a
 obtain ⟨b1, b2, ⟨b3, b4, b5⟩, b6, b7⟩ := b
 unfold Sg.v at h
 simp at h
 simp [h]
structure NOk (n : Int) (N : List (Sg × Int)) : Prop where
 nd : (N.map Prod.fst).Nodup
 va : ∀ (j : Nat) (q : Sg × Int), N[j]? = some q -> q.2 = (j : Int) + n + 2
theorem NOk.nil (n : Int) : NOk n [] := ⟨List.nodup_nil, fun j q h => by simp at h⟩
theorem NOk.push {n : Int} {N : List (Sg × Int)} (h : NOk n N) {s : Sg} (hs : ∀ q ∈ N, q.1 ≠ s) : NOk n (N ++ [(s, (N.length : Int) + n + 2)]) := by
 refine ⟨?_, fun j q hq => ?_⟩
 ·
  rw [Ym, List.nodup_append]
  refine ⟨h.nd, by simp, fun a ha b hb => ?_⟩
  simp only [Yyl, List.map_nil, Ye] at hb
  subst hb
  obtain ⟨q, hq, rfl⟩ := Yp.1 ha
  exact hs q hq
 ·
  by_cases hj : j < N.length
  ·
   rw [Yyi hj] at hq; exact h.va j q hq
  ·
   have hjl := (Ya.1 hq).1
   rw [Yh, Yv] at hjl
   have : j = N.length := by omega
   subst this
   rw [Yyc (Nat.le_refl _), Nat.sub_self] at hq
   cases hq; rfl
theorem NOk.keyv {n : Int} {N : List (Sg × Int)} (h : NOk n N) {s s' : Sg} {v : Int} (h1 : (s, v) ∈ N) (h2 : (s', v) ∈ N) : s = s' := by
 obtain ⟨i, hi⟩ := Yf.1 h1
 obtain ⟨j, hj⟩ := Yf.1 h2
 have e1 := h.va i _ hi
 have e2 := h.va j _ hj
 have : i = j := by simp only at e1 e2; omega
 subst this
 rw [hi] at hj; cases hj; rfl
theorem NOk.val {n : Int} {N : List (Sg × Int)} (h : NOk n N) {s : Sg} {v v' : Int} (h1 : (s, v) ∈ N) (h2 : (s, v') ∈ N) : v = v' := by
 obtain ⟨i, hi⟩ := Yf.1 h1
 obtain ⟨j, hj⟩ := Yf.1 h2
 have hi' : (N.map Prod.fst)[i]? = some s := by rw [Yd, hi]; rfl
 have hj' : (N.map Prod.fst)[j]? = some s := by rw [Yd, hj]; rfl
 have : i = j := (List.getElem?_inj (Ya.1 hi').1 h.nd).1 (hi'.trans hj'.symm)
 subst this
 rw [hi] at hj; cases hj; rfl
inductive HsN (N : List (Sg × Int)) : Int -> List Sg -> Prop
 | base {s : Sg} {v : Int} (hm : (s, v) ∈ N) (hk : s.k = 0) : HsN N v [s]
 | step {s : Sg} {v : Int} {l : List Sg} (hm : (s, v) ∈ N) (hk : s.k ≠ 0) (hh : HsN N s.b l) : HsN N v ({ s with b := 0 } :: l)
theorem HsN.mono {N N' : List (Sg × Int)} (hsub : ∀ q ∈ N, q ∈ N') {v : Int} {l : List Sg} (h : HsN N v l) : HsN N' v l := by
 induction h with
 | base hm hk => exact .base (hsub _ hm) hk
 | step hm hk _ ih => exact .step (hsub _ hm) hk ih
theorem HsN.ne {N : List (Sg × Int)} {v : Int} (h : HsN N v []) : False := by cases h
theorem HsN.inj {n : Int} {N : List (Sg × Int)} (hN : NOk n N) : ∀ {l : List Sg} {v v' : Int}, HsN N v l -> HsN N v' l -> v = v'
 | [], _, _, h, _ => h.ne.elim
 | a :: l, v, v', h, h' => by
  cases h with
  | base hm hk =>
   cases h' with
   | base hm' hk' => exact hN.val hm hm'
   | @step s' _ _ hm' hk' hh => exact hh.ne.elim
  | @step s _ _ hm hk hh =>
   generalize hq : ({ s with b := 0 } : Sg) = q at h'
   cases h' with
   | base hm' hk' => exact hh.ne.elim
   | @step s' _ _ hm' hk' hh' =>
    have hb := HsN.inj hN hh hh'
    have : s = s' := by
     obtain ⟨a1, a2, a3, a4, a5⟩ := s
     obtain ⟨b1, b2, b3, b4, b5⟩ := s'
     simp only [Sg.mk.injEq] at hq ⊢
     exact ⟨hb, hq.2⟩
    subst this
    exact hN.val hm hm'
theorem HsN.func {n : Int} {N : List (Sg × Int)} (hN : NOk n N) {v : Int} {l l' : List Sg} (h : HsN N v l) : HsN N v l' -> l = l' := by
 intro h'
 induction h generalizing l' with
 | base hm hk =>
  cases h' with
  | base hm' hk' => rw [hN.keyv hm hm']
  | step hm' hk' hh => have := hN.keyv hm hm'; subst this; exact absurd hk hk'
 | step hm hk hh ih =>
  cases h' with
  | base hm' hk' => have := hN.keyv hm hm'; subst this; exact absurd hk' hk
  | step hm' hk' hh' => have := hN.keyv hm hm'; subst this; rw [ih hh']
def nextF (n : Int) (N : List (Sg × Int)) (s : Sg) : Int × List (Sg × Int) := match mget N s with
 | some v => (v, N)
 | none => ((N.length : Int) + n + 2, N ++ [(s, (N.length : Int) + n + 2)])
theorem mget_mem {α β : Type} [DecidableEq α] {a : α} {y : β} : ∀ {l : List (α × β)}, mget l a = some y -> (a, y) ∈ l
 | [], h => by cases h
 | (x, z) :: r, h => by
  rw [mget] at h
  split at h
  ·
   rename_i e; cases h; subst e; simp
  ·
   exact Yn _ (mget_mem h)
theorem mget_not {α β : Type} [DecidableEq α] {a : α} : ∀ {l : List (α × β)}, mget l a = none -> ∀ q ∈ l, q.1 ≠ a
 | [], _, q, hq => by cases hq
 | (x, z) :: r, h, q, hq => by
  rw [mget] at h
  split at h
  ·
   cases h
  ·
   rename_i e
   rcases Yr.1 hq with rfl | hq
   ·
    exact e
   ·
    exact mget_not h q hq
theorem nextF_spec {n : Int} {N : List (Sg × Int)} (hN : NOk n N) (s : Sg) : NOk n (nextF n N s).2 /\ (∀ q ∈ N, q ∈ (nextF n N s).2) /\ (s, (nextF n N s).1) ∈ (nextF n N s).2 /\ (nextF n N s).2.length <= N.length + 1 /\ ∀ q ∈ (nextF n N s).2, q ∈ N \/ q.1 = s := by
 unfold nextF
 cases h : mget N s with
 | some v => exact ⟨hN, fun q hq => hq, mget_mem h, by simp, fun q hq => .inl hq⟩
 | none =>
  refine ⟨hN.push (mget_not h), fun q hq => Yk.2 (.inl hq), Yk.2 (.inr (by simp)), by simp, fun q hq => ?_⟩
  rcases Yk.1 hq with hq | hq
  ·
   exact .inl hq
  ·
   rw [Ye] at hq; subst hq; exact .inr rfl
theorem NOk.bound {n : Int} {N : List (Sg × Int)} (h : NOk n N) {s : Sg} {v : Int} (hm : (s, v) ∈ N) : n + 2 <= v /\ v < (N.length : Int) + n + 2 := by
 obtain ⟨j, hj⟩ := Yf.1 hm
 have := h.va j _ hj
 have := (Ya.1 hj).1
 simp only at *
 omega
def ev0 : Ev := ⟨false, 0, 0⟩
def Mv.ev (x : Mv) : Ev := ⟨x.send, x.peer, x.label⟩
def sgB (C : List Nat) (fin : List Bool) (s : Nat) : Sg := ⟨(C.getD s 0 : Nat), 0, ev0, fin.getD s false, 0⟩
def sgL (mv : List Mv) (t : To) : Sg := ⟨0, 1, match mv[t.e.toNat]? with | some x => x.ev | none => ev0, false, t.k⟩
def sgM (C : List Nat) (x : Mv) : Sg := ⟨0, 2, x.ev, x.ag, (C.getD x.t.toNat 0 : Nat)⟩
def keyH (m : Mch) (C : List Nat) (li : List To) (mv : List Mv) (s : Nat) : List Sg :=
 ((mv.filter fun x => x.f = (s : Int)).map (sgM C)).reverse ++ (((li.filter fun t => t.s = (s : Int)).map (sgL m.mv)).reverse ++ [sgB C m.fin s])
def keyS (m : Mch) (C : List Nat) (s : Nat) : List Sg := keyH m C m.li m.mv s
theorem keyH_li {m : Mch} {C : List Nat} {li : List To} {j : Nat} {t : To} (h : li[j]? = some t) (s : Nat) : keyH m C (li.take (j + 1)) [] s = if t.s = (s : Int) then sgL m.mv t :: keyH m C (li.take j) [] s else keyH m C (li.take j) [] s := by
 unfold keyH
 rw [take_snoc h, List.filter_append]
 by_cases e : t.s = (s : Int)
 ·
  rw [if_pos e, List.filter_cons_of_pos (by simpa using e)]; simp
 ·
  rw [if_neg e, List.filter_cons_of_neg (by simpa using e)]; simp
theorem keyH_mv {m : Mch} {C : List Nat} {li : List To} {mv : List Mv} {j : Nat} {x : Mv} (h : mv[j]? = some x) (s : Nat) : keyH m C li (mv.take (j + 1)) s = if x.f = (s : Int) then sgM C x :: keyH m C li (mv.take j) s else keyH m C li (mv.take j) s := by
 unfold keyH
 rw [take_snoc h, List.filter_append]
 by_cases e : x.f = (s : Int)
 ·
  rw [if_pos e, List.filter_cons_of_pos (by simpa using e)]; simp
 ·
  rw [if_neg e, List.filter_cons_of_neg (by simpa using e)]; simp
def clsK (m : Mch) (C : List Nat) : List (List Sg) := (List.range m.n.toNat).map (keyS m C)
def clsN (m : Mch) : Nat -> List Nat -> Nat -> List Nat × Nat
 | 0, C, c => (C, c)
 | f + 1, C, c => if (dedF (clsK m C)).length = c then (canonL (clsK m C), c) else clsN m f (canonL (clsK m C)) (dedF (clsK m C)).length
def cls (m : Mch) : List Nat × Nat := clsN m 202 (List.replicate m.n.toNat 0) 0
theorem clsK_len (m : Mch) (C : List Nat) : (clsK m C).length = m.n.toNat := by unfold clsK; rw [Yc, Yyd]
theorem clsK_ge {m : Mch} {C : List Nat} (hC : C.length = m.n.toNat) : (dedF C).length <= (dedF (clsK m C)).length := by
 have e : C = (clsK m C).map fun k => match k.getLast? with | some s => s.b.toNat | none => 0 := by
  apply List.ext_getElem?
  intro i
  unfold clsK
  rw [List.map_map, Yd]
  by_cases hi : i < m.n.toNat
  ·
   rw [Yyb hi]
   obtain ⟨c, hc⟩ := get_some (l := C) (i := i) (by omega)
   rw [hc]
   show _ = some (match (keyS m C i).getLast? with | some s => s.b.toNat | none => 0)
   have : (keyS m C i).getLast? = some (sgB C m.fin i) := by
    unfold keyS keyH
    rw [<- Yz, List.getLast?_append]; rfl
   rw [this]
   unfold sgB
   simp [Yo, hc]
  ·
   rw [Yl (by omega), Yl (by rw [Yyd]; omega)]; rfl
 have := dedF_map_le (fun k : List Sg => match k.getLast? with | some s => s.b.toNat | none => 0) (clsK m C)
 rwa [<- e] at this
theorem dedF_nodup {K : Type} [DecidableEq K] (l : List K) : (dedF l).Nodup := by
 suffices h : ∀ (m a : List K), a.Nodup -> (m.foldl (fun a k => if k ∈ a then a else a ++ [k]) a).Nodup from h l [] List.nodup_nil
 intro m
 induction m with
 | nil => intro a h; exact h
 | cons x r ih =>
  intro a h
  rw [List.foldl_cons]
  refine ih _ ?_
  split
  ·
   exact h
  ·
   rename_i hx
   rw [List.nodup_append]
   exact ⟨h, by simp, fun a ha b hb => by rw [Ye] at hb; subst hb; exact fun e => hx (e ▸ ha)⟩
def zipI {K : Type} (D : List K) (k : Nat) : List (K × Int) := (D.zipIdx k).map fun q => (q.1, (q.2 : Int))
theorem zipI_fst {K : Type} (D : List K) (k : Nat) : (zipI D k).map Prod.fst = D := by
 unfold zipI
 rw [List.map_map]
 exact List.zipIdx_map_fst k D
theorem zipI_snoc {K : Type} (D : List K) (a : K) : zipI (D ++ [a]) 0 = zipI D 0 ++ [(a, (D.length : Int))] := by
 unfold zipI
 rw [List.zipIdx_append, Ym]; simp
theorem zipI_len {K : Type} (D : List K) (k : Nat) : (zipI D k).length = D.length := by unfold zipI; rw [Yc, List.length_zipIdx]
theorem mget_zipI {K : Type} [DecidableEq K] (a : K) : ∀ (D : List K) (k : Nat), mget (zipI D k) a = if a ∈ D then some ((idxF D a : Int) + k) else none
 | [], k => rfl
 | x :: r, k => by
  have e : zipI (x :: r) k = (x, (k : Int)) :: zipI r (k + 1) := rfl
  rw [e, mget, idxF]
  by_cases h : x = a
  ·
   rw [if_pos h, if_pos (by simp [h]), if_pos h]; simp
  ·
   rw [if_neg h, mget_zipI a r (k + 1), if_neg h]
   by_cases hm : a ∈ r
   ·
    rw [if_pos hm, if_pos (Yn _ hm)]
    congr 1; omega
   ·
    rw [if_neg hm, if_neg (fun hc => by rcases Yr.1 hc with hc | hc; exact h hc.symm; exact hm hc)]
structure MOk (m : Mch) : Prop where
 n : 1 <= m.n /\ m.n <= 200
 s : 0 <= m.s /\ m.s < m.n
 fl : m.fin.length = m.n.toNat
 ml : m.mv.length <= 400
 ll : m.li.length <= 80000
 mv : ∀ x ∈ m.mv, 0 <= x.f /\ x.f < m.n /\ 0 <= x.t /\ x.t < m.n /\ (-9223372036854775808 <= x.peer /\ x.peer <= 9223372036854775807) /\ (-9223372036854775808 <= x.label /\ x.label <= 9223372036854775807)
 li : ∀ t ∈ m.li, 0 <= t.s /\ t.s < m.n /\ 0 <= t.e /\ t.e < m.mv.length /\ (-9223372036854775808 <= t.k /\ t.k <= 9223372036854775807)
def mvLt (a b : Mv) : Prop := a.f < b.f \/ (a.f = b.f /\ evLt a.ev b.ev)
theorem mvLt_irr (a : Mv) : ¬ mvLt a a := by
 rintro (h | ⟨_, h⟩)
 ·
  omega
 ·
  exact evLt_irr _ h
theorem mvLt_trans {a b c : Mv} (h1 : mvLt a b) (h2 : mvLt b c) : mvLt a c := by
 rcases h1 with h1 | ⟨h1, h1'⟩ <;> rcases h2 with h2 | ⟨h2, h2'⟩
 ·
  exact .inl (by omega)
 ·
  exact .inl (by omega)
 ·
  exact .inl (by omega)
 ·
  exact .inr ⟨by omega, evLt_trans h1' h2'⟩
theorem mvSorted_same : ∀ {l l' : List Mv}, l'.Perm l -> l.Pairwise mvLt -> l'.Pairwise (fun a b => ¬ mvLt b a) -> l' = l
 | [], l', hp, _, _ => List.perm_nil.1 hp
 | a :: l, [], hp, _, _ => by have := hp.length_eq; simp at this
 | a :: l, b :: l', hp, hs, hs' => by
  rw [List.pairwise_cons] at hs hs'
  have hb : b = a := by
   have hbm : b ∈ a :: l := hp.subset (Yx ..)
   have ham : a ∈ b :: l' := hp.symm.subset (Yx ..)
   rcases Yr.1 hbm with h | h
   ·
    exact h
   ·
    rcases Yr.1 ham with h' | h'
    ·
     exact h'.symm
    ·
     exact absurd (hs.1 b h) (hs'.1 a h')
  subst hb
  rw [mvSorted_same ((List.perm_cons b).1 hp) hs.2 hs'.2]
end Go.VC
end

section
/- The view table and the raw machine, computed with sets of states al lists. No program here. -/
namespace Go.VC

def setOf (L : List Nat) : PSet := fun j => decide (j ∈ L)
def Can (n : Nat) (L : List Nat) : Prop := L = (List.range n).filter fun j => decide (j ∈ L)
theorem Can.mk (n : Nat) (p : Nat -> Bool) : Can n ((List.range n).filter p) := by
 unfold Can
 apply List.filter_congr
 intro x hx
 by_cases hm : x ∈ (List.range n).filter p
 ·
  rw [decide_eq_true hm]; exact (List.mem_filter.1 hm).2
 ·
  rw [decide_eq_false hm]
  cases hp : p x
  ·
   rfl
  ·
   exact absurd (List.mem_filter.2 ⟨hx, hp⟩) hm
theorem Can.lt {n : Nat} {L : List Nat} (h : Can n L) : ∀ j ∈ L, j < n := by
 intro j hj
 rw [h, List.mem_filter, List.mem_range] at hj
 exact hj.1
theorem setOf_inj {n : Nat} {L L' : List Nat} (h : Can n L) (h' : Can n L') : setOf L = setOf L' ↔ L = L' := by
 constructor
 ·
  intro e
  rw [h, h']
  congr 1
 ·
  intro e; rw [e]
theorem elems_setOf {n : Nat} {L : List Nat} (h : Can n L) (hn : n <= 4096) : elems (setOf L) = L := by
 unfold elems
 have e : List.range 4096 = List.range n ++ (List.range (4096 - n)).map (n + ·) := by rw [<- List.range_add]; congr 1; omega
 rw [e, List.filter_append]
 have e2 : ((List.range (4096 - n)).map (n + ·)).filter (setOf L) = [] := by
  rw [List.filter_eq_nil_iff]
  intro x hx
  obtain ⟨y, _, rfl⟩ := Yp.1 hx
  unfold setOf
  simp only [decide_eq_true_eq]
  intro hm
  have := h.lt _ hm
  omega
 rw [e2, Yw]
 exact h.symm
def evsC (es : List Ed) (role : Int) (L : List Nat) : List Ev := sortE (L.flatMap fun n => (visL es role n).map (·.x))
def toC (es : List Ed) (role : Int) (L : List Nat) (x : Ev) : List Int := L.flatMap fun n => (visL es role n).filterMap fun a => if a.x = x then some a.to else none
theorem evs_setOf {n : Nat} {L : List Nat} (h : Can n L) (hn : n <= 4096) (es : List Ed) (role : Int) : evs es role (setOf L) = evsC es role L := by unfold evs evL evsC; rw [elems_setOf h hn]
theorem toL_setOf {n : Nat} {L : List Nat} (h : Can n L) (hn : n <= 4096) (es : List Ed) (role : Int) (x : Ev) : toL es role (setOf L) x = toC es role L x := by unfold toL toC; rw [elems_setOf h hn]
def addC (es : List Ed) (role : Int) (L : List Nat) : List Nat := es.foldl (fun L x => if (vis1 role x).isNone && decide (x.f.toNat ∈ L) && !decide (x.t.toNat ∈ L) then L ++ [x.t.toNat] else L) L
def bfsC (es : List Ed) (role : Int) : Nat -> List Nat -> List Nat
 | 0, L => L
 | f + 1, L => bfsC es role f (addC es role L)
def okC (es : List Ed) (role : Int) (l : List Int) (L : List Nat) : Bool :=
 l.all (fun v => decide (0 <= v) && decide (v.toNat ∈ L)) && es.all (fun x => !(vis1 role x).isNone || !decide (x.f.toNat ∈ L) || decide (x.t.toNat ∈ L)) &&
  (List.range L.length).all fun i => match L[i]? with
   | some j => l.any (fun v => decide (v = (j : Int))) || es.any fun x => (vis1 role x).isNone && decide (x.f.toNat ∈ L.take i) && decide (x.t = (j : Int))
   | none => false
theorem okC_clo {es : List Ed} {role : Int} {l : List Int} {L : List Nat} (hes : ∀ x ∈ es, 0 <= x.f /\ 0 <= x.t) (h : okC es role l L = true) (j : Nat) : clo es role l j = decide (j ∈ L) := by
 unfold okC at h
 simp only [Yt, List.all_eq_true, List.mem_range] at h
 obtain ⟨⟨h1, h2⟩, h3⟩ := h
 have fwd : ∀ a : Int, Qr es role l a -> 0 <= a /\ a.toNat ∈ L := by
  intro a ha
  induction ha with
  | base hm => have := h1 _ hm; simpa using this
  | step _ hx ih =>
   obtain ⟨x, hx, hv, hf, rfl⟩ := hx
   refine ⟨(hes x hx).2, ?_⟩
   have := h2 x hx
   simp only [Bool.or_eq_true, Bool.not_eq_true', decide_eq_false_iff_not, decide_eq_true_eq] at this
   rcases this with (h4 | h4) | h4
   ·
    rw [hv] at h4; cases h4
   ·
    exact absurd (by rw [hf]; exact ih.2) h4
   ·
    exact h4
 have bwd : ∀ i, i <= L.length -> ∀ j ∈ L.take i, Qr es role l (j : Int) := by
  intro i
  induction i with
  | zero => intro _ j hj; rw [Yyk] at hj; cases hj
  | succ i ih =>
   intro hi j hj
   obtain ⟨y, hy⟩ := get_some (l := L) (i := i) (by omega)
   rw [take_snoc hy, Yk, Ye] at hj
   rcases hj with hj | rfl
   ·
    exact ih (by omega) j hj
   ·
    have := h3 i (by omega)
    rw [hy] at this
    simp only [Bool.or_eq_true, List.any_eq_true, decide_eq_true_eq, Yt] at this
    rcases this with ⟨v, hv, rfl⟩ | ⟨x, hx, ⟨h4, h5⟩, h6⟩
    ·
     exact .base hv
    ·
     have hq := ih (by omega) _ h5
     rw [show ((x.f.toNat : Nat) : Int) = x.f by have := hes x hx; omega] at hq
     exact .step hq ⟨x, hx, Option.isNone_iff_eq_none.1 h4, rfl, h6⟩
 have hiff : clo es role l j = true ↔ j ∈ L := by
  rw [clo_iff]
  constructor
  ·
   intro h; have := (fwd _ h).2; rwa [Ys] at this
  ·
   intro h; exact bwd L.length (Nat.le_refl _) j (by rw [Yye]; exact h)
 by_cases hj : j ∈ L
 ·
  rw [decide_eq_true hj]; exact hiff.2 hj
 ·
  rw [decide_eq_false hj]
  cases hc : clo es role l j
  ·
   rfl
  ·
   exact absurd (hiff.1 hc) hj
def cloC (es : List Ed) (role : Int) (n : Nat) (l : List Int) : Option (List Nat) :=
 let L := bfsC es role n (l.map Int.toNat).eraseDups
 if okC es role l L then some ((List.range n).filter fun j => decide (j ∈ L)) else none
theorem cloC_ok {es : List Ed} {role : Int} {n : Nat} {l : List Int} {L : List Nat} (hes : ∀ x ∈ es, 0 <= x.f /\ 0 <= x.t) (hlt : ∀ j : Nat, clo es role l j = true -> j < n) (h : cloC es role n l = some L) : Can n L /\ clo es role l = setOf L := by
 unfold cloC at h
 simp only at h
 split at h
 ·
  rename_i hk
  cases h
  refine ⟨Can.mk _ _, ?_⟩
  funext j
  rw [okC_clo hes hk]
  unfold setOf
  by_cases hj : j ∈ bfsC es role n (l.map Int.toNat).eraseDups
  ·
   rw [decide_eq_true hj, decide_eq_true]
   have : clo es role l j = true := by rw [okC_clo hes hk, decide_eq_true hj]
   exact List.mem_filter.2 ⟨List.mem_range.2 (hlt j this), decide_eq_true hj⟩
  ·
   rw [decide_eq_false hj, decide_eq_false]
   intro hm
   exact hj (of_decide_eq_true (List.mem_filter.1 hm).2)
 ·
  cases h
def rowCS (S : List (List Nat)) (L : List Nat) : List (List Nat) := if L ∈ S then S else S ++ [L]
theorem rowI_setOf {n : Nat} {L : List Nat} (hL : Can n L) : ∀ {S : List (List Nat)}, (∀ s ∈ S, Can n s) -> rowI (S.map setOf) (setOf L) = idxF S L
 | [], _ => rfl
 | s :: S, h => by
  rw [Yyl, rowI, idxF]
  have hs := setOf_inj (h s (Yx ..)) hL
  by_cases e : s = L
  ·
   rw [if_pos (hs.2 e), if_pos e]
  ·
   rw [if_neg (fun h => e (hs.1 h)), if_neg e, rowI_setOf hL fun s hs => h s (Yn _ hs)]
theorem rowS_setOf {n : Nat} {L : List Nat} (hL : Can n L) {S : List (List Nat)} (hS : ∀ s ∈ S, Can n s) : rowS (S.map setOf) (setOf L) = (rowCS S L).map setOf /\ ∀ s ∈ rowCS S L, Can n s := by
 have hiff : setOf L ∈ S.map setOf ↔ L ∈ S := by
  rw [<- rowI_lt, rowI_setOf hL hS, Yc]
  constructor
  ·
   intro h
   by_cases hm : L ∈ S
   ·
    exact hm
   ·
    rw [idxF_not hm] at h; omega
  ·
   intro h; exact idxF_lt h
 unfold rowS rowCS
 by_cases hm : L ∈ S
 ·
  rw [if_pos (hiff.2 hm), if_pos hm]; exact ⟨rfl, hS⟩
 ·
  rw [if_neg (fun h => hm (hiff.1 h)), if_neg hm, Ym]
  refine ⟨rfl, fun s hs => ?_⟩
  rcases Yk.1 hs with hs | hs
  ·
   exact hS s hs
  ·
   rw [Ye] at hs; rw [hs]; exact hL
def arcsC (es : List Ed) (role : Int) (n : Nat) (i : Nat) (L : List Nat) : List Ev -> List (List Nat) -> List Mv -> Option (List (List Nat) × List Mv)
 | [], S, M => some (S, M)
 | x :: r, S, M => match cloC es role n (toC es role L x) with
  | none => none
  | some T => arcsC es role n i L r (rowCS S T) (M ++ [⟨i, x.send, x.peer, x.label, (idxF S T : Nat), false⟩])
theorem arcsC_ok {es : List Ed} {role : Int} {n i : Nat} {L : List Nat} (hn : n <= 4096) (hes : ∀ x ∈ es, 0 <= x.f /\ 0 <= x.t) (hlt : ∀ (x : Ev) (j : Nat), clo es role (toC es role L x) j = true -> j < n) (hL : Can n L) : ∀ (l : List Ev) (S : List (List Nat)) (M : List Mv) {S' : List (List Nat)} {M' : List Mv}, (∀ s ∈ S, Can n s) -> arcsC es role n i L l S M = some (S', M') ->
  arcsF es role i (setOf L) l (S.map setOf) M = (S'.map setOf, M') /\ ∀ s ∈ S', Can n s
 | [], S, M, S', M', hS, h => by cases h; exact ⟨rfl, hS⟩
 | x :: r, S, M, S', M', hS, h => by
  rw [arcsC] at h
  cases hc : cloC es role n (toC es role L x) with
  | none => rw [hc] at h; cases h
  | some T =>
   rw [hc] at h
   replace h : arcsC es role n i L r (rowCS S T) (M ++ [⟨i, x.send, x.peer, x.label, (idxF S T : Nat), false⟩]) = some (S', M') := h
   obtain ⟨h1, h2⟩ := cloC_ok hes (hlt x) hc
   have h3 := rowS_setOf h1 hS
   have := arcsC_ok hn hes hlt hL r _ _ h3.2 h
   rw [arcsF, toL_setOf hL hn, h2, rowI_setOf h1 hS, h3.1]
   exact this
def viewsCF (es : List Ed) (role : Int) (n : Nat) : Nat -> Nat -> List (List Nat) -> List Mv -> Option (Option (List (List Nat) × List Mv))
 | 0, _, _, _ => some none
 | f + 1, i, S, M => match S[i]? with
  | none => some (some (S, M))
  | some L => match arcsC es role n i L (evsC es role L) S M with
   | none => none
   | some (S', M') => if S'.length > 200 then some none else viewsCF es role n f (i + 1) S' M'
theorem viewsCF_ok {es : List Ed} {role : Int} {n : Nat} (hn : n <= 4096) (hes : ∀ x ∈ es, 0 <= x.f /\ 0 <= x.t) (hlt : ∀ (L : List Nat) (x : Ev) (j : Nat), clo es role (toC es role L x) j = true -> j < n) : ∀ (f i : Nat) (S : List (List Nat)) (M : List Mv) {r : Option (List (List Nat) × List Mv)}, (∀ s ∈ S, Can n s) -> viewsCF es role n f i S M = some r ->
  viewsF es role f i (S.map setOf) M = r.map (fun q => (q.1.map setOf, q.2)) /\ ∀ q, r = some q -> ∀ s ∈ q.1, Can n s
 | 0, i, S, M, r, _, h => by cases h; exact ⟨rfl, fun q hq => by cases hq⟩
 | f + 1, i, S, M, r, hS, h => by
  rw [viewsCF] at h
  rw [viewsF, Yd]
  cases hg : S[i]? with
  | none =>
   rw [hg] at h
   cases h
   exact ⟨rfl, fun q hq => by cases hq; exact hS⟩
  | some L =>
   rw [hg] at h
   have hL := hS L (Yb hg)
   cases ha : arcsC es role n i L (evsC es role L) S M with
   | none => simp only [ha] at h; cases h
   | some q =>
    obtain ⟨S', M'⟩ := q
    simp only [ha] at h
    have h1 := arcsC_ok hn hes (hlt L) hL _ S M hS ha
    rw [<- evs_setOf hL hn] at h1
    show (if (arcsF es role i (setOf L) (evs es role (setOf L)) (S.map setOf) M).1.length > 200 then none else viewsF es role f (i + 1) (arcsF es role i (setOf L) (evs es role (setOf L)) (S.map setOf) M).1 (arcsF es role i (setOf L) (evs es role (setOf L)) (S.map setOf) M).2) = _ /\ _
    rw [h1.1]
    simp only [Yc]
    split
    ·
     rename_i hc
     rw [if_pos hc] at h
     cases h
     exact ⟨rfl, fun q hq => by cases hq⟩
    ·
     rename_i hc
     rw [if_neg hc] at h
     exact viewsCF_ok hn hes hlt f (i + 1) S' M' h1.2 h
theorem viewV_congr {F F' : Nat -> List Ev} {en en' : Nat -> Bool} {O : List Bool} {T : List Ti} {l : List Nat} (hF : ∀ k ∈ l, F k = F' k) (he : ∀ k ∈ l, en k = en' k) : viewV F en O T l = viewV F' en' O T l := by
 have hb : ∀ k ∈ l, badV F en l k = badV F' en' l k := by
  intro k hk
  unfold badV
  have ha : (l.any fun q => en q || decide (F k ≠ F q)) = l.any fun q => en' q || decide (F' k ≠ F' q) := by
   rw [Bool.eq_iff_iff, List.any_eq_true, List.any_eq_true]
   constructor
   ·
    rintro ⟨q, hq, h⟩; exact ⟨q, hq, by rw [<- he q hq, <- hF q hq, <- hF k hk]; exact h⟩
   ·
    rintro ⟨q, hq, h⟩; exact ⟨q, hq, by rw [he q hq, hF q hq, hF k hk]; exact h⟩
  rw [ha, hF k hk, he k hk]
 unfold viewV
 congr 1
 suffices h : ∀ (m : List Nat) (st : Option (Bool × Ti)), (∀ k ∈ m, k ∈ l) -> m.foldl (stepV F en O T l) st = m.foldl (stepV F' en' O T l) st from h l _ fun k hk => hk
 intro m
 induction m with
 | nil => intro st _; rfl
 | cons a m ih =>
  intro st hs
  rw [List.foldl_cons, List.foldl_cons]
  have : stepV F en O T l st a = stepV F' en' O T l st a := by unfold stepV; rw [hb a (hs a (Yx ..))]
  rw [this]
  exact ih _ fun k hk => hs k (Yn _ hk)
def rawLC (vw : List Nat -> Option Ti) : Nat -> List (List Nat) -> List Mv -> List To -> Option (List Mv × List To)
 | _, [], M, L => some (M, L)
 | n, p :: S, M, L => match vw p with
  | none => none
  | some x => rawLC vw (n + 1) S (M.map (updR n x)) (L ++ limR n x M)
theorem rawLC_ok {vw vw' : List Nat -> Option Ti} {N : Nat} (hN : N <= 4096) : ∀ (n : Nat) (S : List (List Nat)) (M : List Mv) (L : List To), (∀ s ∈ S, Can N s /\ vw s = vw' s) -> rawL vw n (S.map setOf) M L = rawLC vw' n S M L
 | _, [], _, _, _ => rfl
 | n, p :: S, M, L, h => by
  obtain ⟨h1, h2⟩ := h p (Yx ..)
  rw [Yyl, rawL, rawLC, elems_setOf h1 hN, h2]
  cases vw' p with
  | none => rfl
  | some x => exact rawLC_ok hN (n + 1) S _ _ fun s hs => h s (Yn _ hs)
end Go.VC
end

section
namespace Go.VC
open Go.Proofs

def W123 (p0_1 : ByteArray) (p0_2 p0_3 : Sl) (p0_4 p0_5 p0_6 : Int) (p0_7 p0_8 : Sl) (p1 : Int) (h : Heap) (R : Value -> Heap -> Prop) : Prop :=
 (Wn h (L3 p0_1 p0_2 p0_3 p0_4 p0_5 p0_6 p0_7 p0_8) 59 fun h9 =>
 (∃ x10 x11 x12 x13 x14 x15 x16 x17, aL3 h9 (aS h 0) x10 x11 x12 x13 x14 x15 x16 x17 /\
 (Fn Pz 69 #[.agg ⟨(L3 x10 x11 x12 x13 x14 x15 x16 x17)⟩] h9
 (fun v18 h20 => ∃ x19, iB v18 x19 /\
 (sB (!x19)
 (R (.tuple ⟨[.pointer none, vI 1]⟩) h20)
 ((sB (decide (p1 < 0))
 (R (.tuple ⟨[.pointer none, vI 1]⟩) h20)
 ((∃ x21, rS h20 (aS h 1) x21 /\
 (sB (decide (p1 >= (x21.n : Int)))
 (R (.tuple ⟨[.pointer none, vI 1]⟩) h20)
 ((∃ x22 x23 x24 x25 x26 x27 x28 x29, aL3 h20 (aS h 0) x22 x23 x24 x25 x26 x27 x28 x29 /\
 (∃ x30, rI h20 (aS h 3) x30 /\
 (∃ x31, rI h20 (aS h 3) x31 /\
 ((Mk x30 x30 24 /\ Wn h20 (madeL Pz 49 (Int.toNat x30)) 49 fun h32 =>
 (Sm [(aS h 3), (aS h 0)] h20 h32 /\
 (Mk x31 x31 24 /\ Wn h32 (madeL Pz 228 (Int.toNat x31)) 228 fun h33 =>
 (Sm [(aS h 3), (aS h 0)] h32 h33 /\
 (Wn h33 [.string x22, vS x23, vS x24, vI x25, vI x26, vI x27, vS x28, vS x29, vI p1, .slice (some (aS h20 0)) (Int.toNat x30) (Int.toNat x30), .slice (some (aS h32 0)) (Int.toNat x31) (Int.toNat x31)] 227 fun h34 =>
 (∃ x35, rS h34 (aS h 6) x35 /\
 (QI 0 h34 fun I36 x_39 h40 m38 => (
 (sB (decide (x_39 < (x35.n : Int)))
 ((NB x35.a fun b41 o42 => (Ib x_39 x35.n /\
 (∃ x43 x44 x45 x46 x47 x48, aL7 h40 ⟨b41, o42 + Int.toNat x_39 * 6, none⟩ x43 x44 x45 x46 x47 x48 /\
 (Wn h40 [vI 0, vI 0, vI 0, vI 0, vI 0, .bool false] 145 fun h49 =>
 (Wp h49 (aS h40 0) 6 (L7 x43 x44 x45 x46 x47 x48) fun h50 =>
 (∃ x51, rI h50 (aS h40 1) x51 /\
 (sB (p1 == x51)
 ((∃ x52, rS h50 (aS h33 10) x52 /\
 (∃ x53, rI h50 (aS h40 0) x53 /\
 (∃ x54, rS h50 (aS h33 10) x54 /\
 (∃ x55, rI h50 (aS h40 0) x55 /\
 (NB x54.a fun b56 o57 => (Ib x55 x54.n /\
 (∃ x58, rS h50 ⟨b56, o57 + Int.toNat x55 * 1, none⟩ x58 /\
 (∃ x59, rI h50 (aS h40 (1 + 1)) x59 /\
 (∃ x60, rI h50 (aS h40 (1 + 2)) x60 /\
 (∃ x61, rI h50 (aS h40 4) x61 /\
 (Wn h50 [.bool true, vI x59, vI x60, vI x61] 230 fun h62 =>
 (Sm [⟨b56, o57 + Int.toNat x55 * 1, none⟩, (aS h40 0), (aS h33 10), (aS h40 0), (aS h33 10)] h50 h62 /\
 (App Pz 228 228 (vS x58) (.slice (some (aS h50 0)) 1 1) h62 fun s63 h64 =>
 (Sm [(aS h40 0), (aS h33 10)] h62 h64 /\
 (NB x52.a fun b65 o66 => (Ib x53 x52.n /\
 (Wp h64 ⟨b65, o66 + Int.toNat x53 * 1, none⟩ 1 [vS s63] fun h67 =>
 (∃ m68, m68 < m38 /\ I36 (IntKind.wrap .i64 (x_39 + 1)) h67 m68)))))))))))))))))))
 ((∃ x69, rI h50 (aS h40 (1 + 1)) x69 /\
 (sB (p1 == x69)
 ((∃ x70, rS h50 (aS h33 10) x70 /\
 (∃ x71, rI h50 (aS h40 0) x71 /\
 (∃ x72, rS h50 (aS h33 10) x72 /\
 (∃ x73, rI h50 (aS h40 0) x73 /\
 (NB x72.a fun b74 o75 => (Ib x73 x72.n /\
 (∃ x76, rS h50 ⟨b74, o75 + Int.toNat x73 * 1, none⟩ x76 /\
 (∃ x77, rI h50 (aS h40 1) x77 /\
 (∃ x78, rI h50 (aS h40 (1 + 2)) x78 /\
 (∃ x79, rI h50 (aS h40 4) x79 /\
 (Wn h50 [.bool false, vI x77, vI x78, vI x79] 230 fun h80 =>
 (Sm [⟨b74, o75 + Int.toNat x73 * 1, none⟩, (aS h40 0), (aS h33 10), (aS h40 0), (aS h33 10)] h50 h80 /\
 (App Pz 228 228 (vS x76) (.slice (some (aS h50 0)) 1 1) h80 fun s81 h82 =>
 (Sm [(aS h40 0), (aS h33 10)] h80 h82 /\
 (NB x70.a fun b83 o84 => (Ib x71 x70.n /\
 (Wp h82 ⟨b83, o84 + Int.toNat x71 * 1, none⟩ 1 [vS s81] fun h85 =>
 (∃ m86, m86 < m38 /\ I36 (IntKind.wrap .i64 (x_39 + 1)) h85 m86)))))))))))))))))))
 ((∃ x87, rS h50 (aS h33 9) x87 /\
 (∃ x88, rI h50 (aS h40 0) x88 /\
 (∃ x89, rS h50 (aS h33 9) x89 /\
 (∃ x90, rI h50 (aS h40 0) x90 /\
 (NB x89.a fun b91 o92 => (Ib x90 x89.n /\
 (∃ x93, rS h50 ⟨b91, o92 + Int.toNat x90 * 1, none⟩ x93 /\
 (∃ x94, rI h50 (aS h40 4) x94 /\
 (Wn h50 [vI x94] 3 fun h95 =>
 (Sm [⟨b91, o92 + Int.toNat x90 * 1, none⟩, (aS h40 0), (aS h33 9), (aS h40 0), (aS h33 9)] h50 h95 /\
 (App Pz 49 49 (vS x93) (.slice (some (aS h50 0)) 1 1) h95 fun s96 h97 =>
 (Sm [(aS h40 0), (aS h33 9)] h95 h97 /\
 (NB x87.a fun b98 o99 => (Ib x88 x87.n /\
 (Wp h97 ⟨b98, o99 + Int.toNat x88 * 1, none⟩ 1 [vS s96] fun h100 =>
 (∃ m101, m101 < m38 /\ I36 (IntKind.wrap .i64 (x_39 + 1)) h100 m101))))))))))))))))))))))))))))
 (R (.tuple ⟨[.pointer (some (aS h33 0)), vI 0]⟩) h40))))))))))) /\ ((Mk x31 x31 24 /\ Wn h20 (madeL Pz 228 (Int.toNat x31)) 228 fun h102 =>
 (Sm [(aS h 3), (aS h 0)] h20 h102 /\
 (Mk x30 x30 24 /\ Wn h102 (madeL Pz 49 (Int.toNat x30)) 49 fun h103 =>
 (Sm [(aS h 3), (aS h 0)] h102 h103 /\
 (Wn h103 [.string x22, vS x23, vS x24, vI x25, vI x26, vI x27, vS x28, vS x29, vI p1, .slice (some (aS h102 0)) (Int.toNat x30) (Int.toNat x30), .slice (some (aS h20 0)) (Int.toNat x31) (Int.toNat x31)] 227 fun h104 =>
 (∃ x105, rS h104 (aS h 6) x105 /\
 (QI 0 h104 fun I106 x_109 h110 m108 => (
 (sB (decide (x_109 < (x105.n : Int)))
 ((NB x105.a fun b111 o112 => (Ib x_109 x105.n /\
 (∃ x113 x114 x115 x116 x117 x118, aL7 h110 ⟨b111, o112 + Int.toNat x_109 * 6, none⟩ x113 x114 x115 x116 x117 x118 /\
 (Wn h110 [vI 0, vI 0, vI 0, vI 0, vI 0, .bool false] 145 fun h119 =>
 (Wp h119 (aS h110 0) 6 (L7 x113 x114 x115 x116 x117 x118) fun h120 =>
 (∃ x121, rI h120 (aS h110 1) x121 /\
 (sB (p1 == x121)
 ((∃ x122, rS h120 (aS h103 10) x122 /\
 (∃ x123, rI h120 (aS h110 0) x123 /\
 (∃ x124, rS h120 (aS h103 10) x124 /\
 (∃ x125, rI h120 (aS h110 0) x125 /\
 (NB x124.a fun b126 o127 => (Ib x125 x124.n /\
 (∃ x128, rS h120 ⟨b126, o127 + Int.toNat x125 * 1, none⟩ x128 /\
 (∃ x129, rI h120 (aS h110 (1 + 1)) x129 /\
 (∃ x130, rI h120 (aS h110 (1 + 2)) x130 /\
 (∃ x131, rI h120 (aS h110 4) x131 /\
 (Wn h120 [.bool true, vI x129, vI x130, vI x131] 230 fun h132 =>
 (Sm [⟨b126, o127 + Int.toNat x125 * 1, none⟩, (aS h110 0), (aS h103 10), (aS h110 0), (aS h103 10)] h120 h132 /\
 (App Pz 228 228 (vS x128) (.slice (some (aS h120 0)) 1 1) h132 fun s133 h134 =>
 (Sm [(aS h110 0), (aS h103 10)] h132 h134 /\
 (NB x122.a fun b135 o136 => (Ib x123 x122.n /\
 (Wp h134 ⟨b135, o136 + Int.toNat x123 * 1, none⟩ 1 [vS s133] fun h137 =>
 (∃ m138, m138 < m108 /\ I106 (IntKind.wrap .i64 (x_109 + 1)) h137 m138)))))))))))))))))))
 ((∃ x139, rI h120 (aS h110 (1 + 1)) x139 /\
 (sB (p1 == x139)
 ((∃ x140, rS h120 (aS h103 10) x140 /\
 (∃ x141, rI h120 (aS h110 0) x141 /\
 (∃ x142, rS h120 (aS h103 10) x142 /\
 (∃ x143, rI h120 (aS h110 0) x143 /\
 (NB x142.a fun b144 o145 => (Ib x143 x142.n /\
 (∃ x146, rS h120 ⟨b144, o145 + Int.toNat x143 * 1, none⟩ x146 /\
 (∃ x147, rI h120 (aS h110 1) x147 /\
 (∃ x148, rI h120 (aS h110 (1 + 2)) x148 /\
 (∃ x149, rI h120 (aS h110 4) x149 /\
 (Wn h120 [.bool false, vI x147, vI x148, vI x149] 230 fun h150 =>
 (Sm [⟨b144, o145 + Int.toNat x143 * 1, none⟩, (aS h110 0), (aS h103 10), (aS h110 0), (aS h103 10)] h120 h150 /\
 (App Pz 228 228 (vS x146) (.slice (some (aS h120 0)) 1 1) h150 fun s151 h152 =>
 (Sm [(aS h110 0), (aS h103 10)] h150 h152 /\
 (NB x140.a fun b153 o154 => (Ib x141 x140.n /\
 (Wp h152 ⟨b153, o154 + Int.toNat x141 * 1, none⟩ 1 [vS s151] fun h155 =>
 (∃ m156, m156 < m108 /\ I106 (IntKind.wrap .i64 (x_109 + 1)) h155 m156)))))))))))))))))))
 ((∃ x157, rS h120 (aS h103 9) x157 /\
 (∃ x158, rI h120 (aS h110 0) x158 /\
 (∃ x159, rS h120 (aS h103 9) x159 /\
 (∃ x160, rI h120 (aS h110 0) x160 /\
 (NB x159.a fun b161 o162 => (Ib x160 x159.n /\
 (∃ x163, rS h120 ⟨b161, o162 + Int.toNat x160 * 1, none⟩ x163 /\
 (∃ x164, rI h120 (aS h110 4) x164 /\
 (Wn h120 [vI x164] 3 fun h165 =>
 (Sm [⟨b161, o162 + Int.toNat x160 * 1, none⟩, (aS h110 0), (aS h103 9), (aS h110 0), (aS h103 9)] h120 h165 /\
 (App Pz 49 49 (vS x163) (.slice (some (aS h120 0)) 1 1) h165 fun s166 h167 =>
 (Sm [(aS h110 0), (aS h103 9)] h165 h167 /\
 (NB x157.a fun b168 o169 => (Ib x158 x157.n /\
 (Wp h167 ⟨b168, o169 + Int.toNat x158 * 1, none⟩ 1 [vS s166] fun h170 =>
 (∃ m171, m171 < m108 /\ I106 (IntKind.wrap .i64 (x_109 + 1)) h170 m171))))))))))))))))))))))))))))
 (R (.tuple ⟨[.pointer (some (aS h103 0)), vI 0]⟩) h110)))))))))))))))))))))))))
theorem vc123 (p0_1 : ByteArray) (p0_2 p0_3 : Sl) (p0_4 p0_5 p0_6 : Int) (p0_7 p0_8 : Sl) (p1 : Int) (h : Heap) (R : Value -> Heap -> Prop) (H : W123 p0_1 p0_2 p0_3 p0_4 p0_5 p0_6 p0_7 p0_8 p1 h R) : Fn Pz 123 #[.agg ⟨(L3 p0_1 p0_2 p0_3 p0_4 p0_5 p0_6 p0_7 p0_8)⟩, vI p1] h R := fnI (A := (.s .z (.s .z (.s .z (.s (.s .z (.b (.l [(36, .one (.int .i64))] .z))) .z))))) (by kernel_rfl) H

def W129 (p0 : Addr) (p1 : Sl) (h : Heap) (R : Value -> Heap -> Prop) : Prop :=
 (∃ x1, rI h ⟨p0.block, p0.off + 3, none⟩ x1 /\
 (Mk x1 x1 1 /\ Wn h (madeL Pz 4 (Int.toNat x1)) 4 fun h2 =>
 (QSI ⟨none, 0, 0⟩ 0 h2 fun I3 todo_6 x_7 h8 m5 => (
 (sB (decide (x_7 < (p1.n : Int)))
 ((NB p1.a fun b9 o10 => (Ib x_7 p1.n /\
 (∃ x11, rI h8 ⟨b9, o10 + Int.toNat x_7 * 1, none⟩ x11 /\
 ((0 <= (x11 : Int) /\ (x11 : Int) < ((Int.toNat x1) : Nat)) /\
 (∃ x12, rB h8 (aS h (0 + Int.toNat x11 * 1)) x12 /\
 (sB (!x12)
 (((0 <= (x11 : Int) /\ (x11 : Int) < ((Int.toNat x1) : Nat)) /\
 (Wp h8 (aS h (0 + Int.toNat x11 * 1)) 1 [.bool true] fun h13 =>
 (Wn h13 [vI x11] 3 fun h14 =>
 (App Pz 49 49 (vS todo_6) (.slice (some (aS h13 0)) 1 1) h14 fun s15 h16 =>
 (∃ m17, m17 < m5 /\ I3 s15 (IntKind.wrap .i64 (x_7 + 1)) h16 m17))))))
 ((∃ m18, m18 < m5 /\ I3 todo_6 (IntKind.wrap .i64 (x_7 + 1)) h8 m18)))))))))
 ((QSI todo_6 0 h8 fun I19 todo_22 head_23 h24 m21 => (
 (sB (decide (head_23 < (todo_22.n : Int)))
 ((∃ x25, rS h24 ⟨p0.block, p0.off + 9, none⟩ x25 /\
 (NB todo_22.a fun b26 o27 => (Ib head_23 todo_22.n /\
 (∃ x28, rI h24 ⟨b26, o27 + Int.toNat head_23 * 1, none⟩ x28 /\
 (NB x25.a fun b29 o30 => (Ib x28 x25.n /\
 (∃ x31, rS h24 ⟨b29, o30 + Int.toNat x28 * 1, none⟩ x31 /\
 (QSI todo_22 0 h24 fun I32 todo_35 x_36 h37 m34 => (
 (sB (decide (x_36 < (x31.n : Int)))
 ((NB x31.a fun b38 o39 => (Ib x_36 x31.n /\
 (∃ x40, rI h37 ⟨b38, o39 + Int.toNat x_36 * 1, none⟩ x40 /\
 ((0 <= (x40 : Int) /\ (x40 : Int) < ((Int.toNat x1) : Nat)) /\
 (∃ x41, rB h37 (aS h (0 + Int.toNat x40 * 1)) x41 /\
 (sB (!x41)
 (((0 <= (x40 : Int) /\ (x40 : Int) < ((Int.toNat x1) : Nat)) /\
 (Wp h37 (aS h (0 + Int.toNat x40 * 1)) 1 [.bool true] fun h42 =>
 (Wn h42 [vI x40] 3 fun h43 =>
 (App Pz 49 49 (vS todo_35) (.slice (some (aS h42 0)) 1 1) h43 fun s44 h45 =>
 (∃ m46, m46 < m34 /\ I32 s44 (IntKind.wrap .i64 (x_36 + 1)) h45 m46))))))
 ((∃ m47, m47 < m34 /\ I32 todo_35 (IntKind.wrap .i64 (x_36 + 1)) h37 m47)))))))))
 ((∃ m48, m48 < m21 /\ I19 todo_35 (IntKind.wrap .i64 (head_23 + 1)) h37 m48)))))))))))))
 ((Fn Pz 174 #[vS todo_22] h24
 (fun v49 h51 => ∃ x50, iS v49 x50 /\
 R (vS x50) h51))))))))))))
theorem vc129 (p0 : Addr) (p1 : Sl) (h : Heap) (R : Value -> Heap -> Prop) (H : W129 p0 p1 h R) : Fn Pz 129 #[.pointer (some p0), vS p1] h R := fnI (A := (.s .z (.s .z (.s .z (.s (.s .z (.b (.l [(6, .one (.slice)), (20, .one (.int .i64))] .z))) (.s (.s .z (.b (.l [(6, .one (.slice)), (9, .one (.int .i64))] (.s .z (.s (.b (.s .z (.b (.l [(6, .one (.slice)), (54, .one (.int .i64))] .z)))) .z))))) .z)))))) (by kernel_rfl) H

def W131 (p0 : Addr) (p1 : Sl) (p2_1 : Bool) (p2_2 p2_3 : Int) (h : Heap) (R : Value -> Heap -> Prop) : Prop :=
 (Wn h (L2 p2_1 p2_2 p2_3) 179 fun h4 =>
 (Fn Pz 73 #[vS p1] h4
 (fun v5 h7 => ∃ x6, iS v5 x6 /\
 (QSI ⟨none, 0, 0⟩ 0 h7 fun I8 to_11 x_12 h13 m10 => (
 (sB (decide (x_12 < (x6.n : Int)))
 ((NB x6.a fun b14 o15 => (Ib x_12 x6.n /\
 (∃ x16, rI h13 ⟨b14, o15 + Int.toNat x_12 * 1, none⟩ x16 /\
 (∃ x17, rS h13 ⟨p0.block, p0.off + 10, none⟩ x17 /\
 (NB x17.a fun b18 o19 => (Ib x16 x17.n /\
 (∃ x20, rS h13 ⟨b18, o19 + Int.toNat x16 * 1, none⟩ x20 /\
 (QSI to_11 0 h13 fun I21 to_24 x_25 h26 m23 => (
 (sB (decide (x_25 < (x20.n : Int)))
 ((NB x20.a fun b27 o28 => (Ib x_25 x20.n /\
 (∃ x29 x30 x31 x32, aL13 h26 ⟨b27, o28 + Int.toNat x_25 * 4, none⟩ x29 x30 x31 x32 /\
 (Wn h26 [.bool false, vI 0, vI 0, vI 0] 230 fun h33 =>
 (Wp h33 (aS h26 0) 4 (L13 x29 x30 x31 x32) fun h34 =>
 (∃ x35 x36 x37, aL2 h34 (aS h26 0) x35 x36 x37 /\
 (∃ x38 x39 x40, aL2 h34 (aS h 0) x38 x39 x40 /\
 (sB ((x35 == x38) && ((x36 == x39) && ((x37 == x40) && true)))
 ((∃ x41, rI h34 (aS h26 3) x41 /\
 (Wn h34 [vI x41] 3 fun h42 =>
 (App Pz 49 49 (vS to_24) (.slice (some (aS h34 0)) 1 1) h42 fun s43 h44 =>
 (∃ m45, m45 < m23 /\ I21 s43 (IntKind.wrap .i64 (x_25 + 1)) h44 m45)))))
 ((∃ m46, m46 < m23 /\ I21 to_24 (IntKind.wrap .i64 (x_25 + 1)) h34 m46)))))))))))
 ((∃ m47, m47 < m10 /\ I8 to_24 (IntKind.wrap .i64 (x_12 + 1)) h26 m47)))))))))))))
 ((Fn Pz 129 #[.pointer (some p0), vS to_11] h13
 (fun v48 h50 => ∃ x49, iS v48 x49 /\
 R (vS x49) h50)))))))))
theorem vc131 (p0 : Addr) (p1 : Sl) (p2_1 : Bool) (p2_2 p2_3 : Int) (h : Heap) (R : Value -> Heap -> Prop) (H : W131 p0 p1 p2_1 p2_2 p2_3 h R) : Fn Pz 131 #[.pointer (some p0), vS p1, .agg ⟨(L2 p2_1 p2_2 p2_3)⟩] h R := fnI (A := (.s .z (.s .z (.s (.s .z (.b (.l [(7, .one (.slice)), (15, .one (.int .i64))] (.s .z (.s .z (.s (.b (.s .z (.s .z (.b (.l [(7, .one (.slice)), (27, .one (.int .i64))] .z))))) .z)))))) .z)))) (by kernel_rfl) H

def W130 (p0 : Addr) (p1 : Sl) (h : Heap) (R : Value -> Heap -> Prop) : Prop :=
 (Fn Pz 73 #[vS p1] h
 (fun v1 h3 => ∃ x2, iS v1 x2 /\
 (QSI ⟨none, 0, 0⟩ 0 h3 fun I4 out_7 x_8 h9 m6 => (
 (sB (decide (x_8 < (x2.n : Int)))
 ((NB x2.a fun b10 o11 => (Ib x_8 x2.n /\
 (∃ x12, rI h9 ⟨b10, o11 + Int.toNat x_8 * 1, none⟩ x12 /\
 (∃ x13, rS h9 ⟨p0.block, p0.off + 10, none⟩ x13 /\
 (NB x13.a fun b14 o15 => (Ib x12 x13.n /\
 (∃ x16, rS h9 ⟨b14, o15 + Int.toNat x12 * 1, none⟩ x16 /\
 (QSI out_7 0 h9 fun I17 out_20 x_21 h22 m19 => (
 (sB (decide (x_21 < (x16.n : Int)))
 ((NB x16.a fun b23 o24 => (Ib x_21 x16.n /\
 (∃ x25 x26 x27 x28, aL13 h22 ⟨b23, o24 + Int.toNat x_21 * 4, none⟩ x25 x26 x27 x28 /\
 (Wn h22 [.bool false, vI 0, vI 0, vI 0] 230 fun h29 =>
 (Wp h29 (aS h22 0) 4 (L13 x25 x26 x27 x28) fun h30 =>
 (∃ x31 x32 x33, aL2 h30 (aS h22 0) x31 x32 x33 /\
 (Wn h30 (L2 x31 x32 x33) 179 fun h34 =>
 (App Pz 176 176 (vS out_20) (.slice (some (aS h30 0)) 1 1) h34 fun s35 h36 =>
 (∃ m37, m37 < m19 /\ I17 s35 (IntKind.wrap .i64 (x_21 + 1)) h36 m37))))))))))
 ((∃ m38, m38 < m6 /\ I4 out_20 (IntKind.wrap .i64 (x_8 + 1)) h22 m38)))))))))))))
 ((Fn Pz 175 #[vS out_7, .func (.func 176) #[] #[]] h9
 (fun v39 h40 => v39 = .tuple ⟨[]⟩ /\
 (Fn Pz 177 #[vS out_7] h40
 (fun v41 h43 => ∃ x42, iS v41 x42 /\
 R (vS x42) h43))))))))))
theorem vc130 (p0 : Addr) (p1 : Sl) (h : Heap) (R : Value -> Heap -> Prop) (H : W130 p0 p1 h R) : Fn Pz 130 #[.pointer (some p0), vS p1] h R := fnI (A := (.s .z (.s .z (.s (.s .z (.b (.l [(5, .one (.slice)), (13, .one (.int .i64))] (.s .z (.s .z (.s (.b (.s .z (.s .z (.b (.l [(5, .one (.slice)), (25, .one (.int .i64))] .z))))) .z)))))) .z)))) (by kernel_rfl) H

def W176 (p0_1 : Bool) (p0_2 p0_3 : Int) (p1_4 : Bool) (p1_5 p1_6 : Int) (h : Heap) (R : Value -> Heap -> Prop) : Prop :=
 (Wn h (L2 p0_1 p0_2 p0_3) 179 fun h7 =>
 (Wn h7 (L2 p1_4 p1_5 p1_6) 179 fun h8 =>
 (∃ x9, rB h8 (aS h 0) x9 /\
 (∃ x10, rB h8 (aS h7 0) x10 /\
 (sB (!(x9 == x10))
 ((∃ x11, rB h8 (aS h 0) x11 /\
 (sB x11
 (R (vI (-1)) h8)
 (R (vI 1) h8))))
 ((∃ x12, rI h8 (aS h 1) x12 /\
 (∃ x13, rI h8 (aS h7 1) x13 /\
 (∃ x14, rI h8 (aS h 2) x14 /\
 (∃ x15, rI h8 (aS h7 2) x15 /\
 (Fn Pz 155 #[vI x12, vI x13] h8
 (fun v16 h18 => ∃ x17, iI v16 x17 /\
 (Sm [(aS h7 2), (aS h 2)] h8 h18 /\
 (Fn Pz 155 #[vI x14, vI x15] h18
 (fun v19 h21 => ∃ x20, iI v19 x20 /\
 (Sm [(aS h7 1), (aS h 1)] h18 h21 /\
 (Wn h21 [vI x17, vI x20] 3 fun h22 =>
 (Fn Pz 154 #[.slice (some (aS h21 0)) 2 2] h22
 (fun v23 h25 => ∃ x24, iI v23 x24 /\
 R (vI x24) h25)))))))))))))))))))
theorem vc176 (p0_1 : Bool) (p0_2 p0_3 : Int) (p1_4 : Bool) (p1_5 p1_6 : Int) (h : Heap) (R : Value -> Heap -> Prop) (H : W176 p0_1 p0_2 p0_3 p1_4 p1_5 p1_6 h R) : Fn Pz 176 #[.agg ⟨(L2 p0_1 p0_2 p0_3)⟩, .agg ⟨(L2 p1_4 p1_5 p1_6)⟩] h R := fnI (A := .z) (by kernel_rfl) H

def W178 (p0 : Addr) (p1 : Sl) (h : Heap) (R : Value -> Heap -> Prop) : Prop :=
 (QSI ⟨none, 0, 0⟩ 0 h fun I1 out_4 x_5 h6 m3 => (
 (sB (decide (x_5 < (p1.n : Int)))
 ((NB p1.a fun b7 o8 => (Ib x_5 p1.n /\
 (∃ x9 x10 x11, aL2 h6 ⟨b7, o8 + Int.toNat x_5 * 3, none⟩ x9 x10 x11 /\
 (Wn h6 [.bool false, vI 0, vI 0] 179 fun h12 =>
 (Wp h12 (aS h6 0) 3 (L2 x9 x10 x11) fun h13 =>
 (∃ x14 x15 x16, aL2 h13 (aS h6 0) x14 x15 x16 /\
 (∃ x17, rI h13 ⟨p0.block, p0.off + 8, none⟩ x17 /\
 (Fn Pz 212 #[.agg ⟨(L2 x14 x15 x16)⟩, vI x17] h13
 (fun v18 h24 => ∃ (x19 : Int) (x20 : Bool) (x21 x22 : Int) (x23 : Sl), v18 = .agg ⟨(L5 x19 x20 x21 x22 x23)⟩ /\
 (Wn h24 (L5 x19 x20 x21 x22 x23) 37 fun h25 =>
 (App Pz 27 27 (vS out_4) (.slice (some (aS h24 0)) 1 1) h25 fun s26 h27 =>
 (∃ m28, m28 < m3 /\ I1 s26 (IntKind.wrap .i64 (x_5 + 1)) h27 m28)))))))))))))
 (R (vS out_4) h6))))
theorem vc178 (p0 : Addr) (p1 : Sl) (h : Heap) (R : Value -> Heap -> Prop) (H : W178 p0 p1 h R) : Fn Pz 178 #[.pointer (some p0), vS p1] h R := fnI (A := (.s .z (.s .z (.s (.s .z (.b (.l [(5, .one (.slice)), (10, .one (.int .i64))] .z))) .z)))) (by kernel_rfl) H

def W212 (p0_1 : Bool) (p0_2 p0_3 p1 : Int) (h : Heap) (R : Value -> Heap -> Prop) : Prop :=
 (Wn h (L2 p0_1 p0_2 p0_3) 179 fun h4 =>
 (Wn h4 [vI 0, .bool false, vI 0, vI 0, .slice none 0 0] 37 fun h5 =>
 (∃ x6, rB h5 (aS h 0) x6 /\
 (∃ x7, rI h5 (aS h 1) x7 /\
 (∃ x8, rI h5 (aS h 2) x8 /\
 (Wp h5 (aS h4 0) 5 [vI p1, .bool x6, vI x7, vI x8, .slice none 0 0] fun h9 =>
 (∃ x10 x11 x12 x13 x14, aL5 h9 (aS h4 0) x10 x11 x12 x13 x14 /\
 R (.agg ⟨(L5 x10 x11 x12 x13 x14)⟩) h9)))))))
theorem vc212 (p0_1 : Bool) (p0_2 p0_3 p1 : Int) (h : Heap) (R : Value -> Heap -> Prop) (H : W212 p0_1 p0_2 p0_3 p1 h R) : Fn Pz 212 #[.agg ⟨(L2 p0_1 p0_2 p0_3)⟩, vI p1] h R := fnI (A := .z) (by kernel_rfl) H

def W132 (p0_1 : ByteArray) (p0_2 p0_3 : Sl) (p0_4 p0_5 p0_6 : Int) (p0_7 p0_8 : Sl) (p1 p2 : Int) (h : Heap) (R : Value -> Heap -> Prop) : Prop :=
 (Wn h (L3 p0_1 p0_2 p0_3 p0_4 p0_5 p0_6 p0_7 p0_8) 59 fun h9 =>
 (∃ x10 x11 x12 x13 x14 x15 x16 x17, aL3 h9 (aS h 0) x10 x11 x12 x13 x14 x15 x16 x17 /\
 (Fn Pz 123 #[.agg ⟨(L3 x10 x11 x12 x13 x14 x15 x16 x17)⟩, vI p1] h9
 (fun v18 h21 => ∃ x19 : Option Addr, ∃ x20 : Int, v18 = .tuple ⟨[.pointer x19, vI x20]⟩ /\
 (sB (x20 != 0)
 (R (.tuple ⟨[.slice none 0 0, .bool false, vI x20]⟩) h21)
 ((sB (decide (p2 < 0))
 (R (.tuple ⟨[.slice none 0 0, .bool false, vI 2]⟩) h21)
 ((∃ x22, rI h21 (aS h 3) x22 /\
 (sB (decide (p2 >= x22))
 (R (.tuple ⟨[.slice none 0 0, .bool false, vI 2]⟩) h21)
 ((Wn h21 [vI p2] 3 fun h23 =>
 (Fn Pz 129 #[.pointer x19, .slice (some (aS h21 0)) 1 1] h23
 (fun v24 h26 => ∃ x25, iS v24 x25 /\
 (∃ x27, rI h26 (aS h 5) x27 /\
 (Fn Pz 130 #[.pointer x19, vS x25] h26
 (fun v28 h30 => ∃ x29, iS v28 x29 /\
 (Sm [(aS h 5)] h26 h30 /\
 (Fn Pz 178 #[.pointer x19, vS x29] h30
 (fun v31 h33 => ∃ x32, iS v31 x32 /\
 (Sm [(aS h 5)] h30 h33 /\
 (Fn Pz 128 #[vS x25, vI x27] h33
 (fun v34 h36 => ∃ x35, iB v34 x35 /\
 R (.tuple ⟨[vS x32, .bool x35, vI 0]⟩) h36)))))))))))))))))))))))
theorem vc132 (p0_1 : ByteArray) (p0_2 p0_3 : Sl) (p0_4 p0_5 p0_6 : Int) (p0_7 p0_8 : Sl) (p1 p2 : Int) (h : Heap) (R : Value -> Heap -> Prop) (H : W132 p0_1 p0_2 p0_3 p0_4 p0_5 p0_6 p0_7 p0_8 p1 p2 h R) : Fn Pz 132 #[.agg ⟨(L3 p0_1 p0_2 p0_3 p0_4 p0_5 p0_6 p0_7 p0_8)⟩, vI p1, vI p2] h R := fnI (A := .z) (by kernel_rfl) H

def W125 (p0 : Sl) (p1 : FuncId) (p1c : Option Addr) (h : Heap) (R : Value -> Heap -> Prop) : Prop :=
 (QI 0 h fun I1 x_4 h5 m3 => (
 (sB (decide (x_4 < (p0.n : Int)))
 ((NB p0.a fun b6 o7 => (Ib x_4 p0.n /\
 (∃ x8, rS h5 ⟨b6, o7 + Int.toNat x_4 * 1, none⟩ x8 /\
 (bif callable Pz p1 then Fn Pz p1 #[vS x8, .pointer p1c] h5
 (fun v9 h11 => ∃ x10, iB v9 x10 /\
 (sB x10
 (R (vI x_4) h11)
 ((∃ m12, m12 < m3 /\ I1 (IntKind.wrap .i64 (x_4 + 1)) h11 m12)))) else ExtW Pz p1 #[vS x8, .pointer p1c] h5
 (fun v9 h11 => ∃ x10, iB v9 x10 /\
 (sB x10
 (R (vI x_4) h11)
 ((∃ m12, m12 < m3 /\ I1 (IntKind.wrap .i64 (x_4 + 1)) h11 m12)))))))))
 (R (vI (-1)) h5))))
theorem vc125 (p0 : Sl) (p1 : FuncId) (p1c : Option Addr) (h : Heap) (R : Value -> Heap -> Prop) (H : W125 p0 p1 p1c h R) : Fn Pz 125 #[vS p0, .func (.func p1) #[] #[.pointer p1c]] h R := fnI (A := (.s .z (.s (.s .z (.b (.l [(8, .one (.int .i64))] .z))) .z))) (by kernel_rfl) H

def W126 (p0 : Sl) (c0 : Addr) (h : Heap) (R : Value -> Heap -> Prop) : Prop :=
 (∃ x1, rS h c0 x1 /\
 (Fn Pz 127 #[vS p0, vS x1] h
 (fun v2 h4 => ∃ x3, iB v2 x3 /\
 R (.bool x3) h4)))
theorem vc126 (p0 : Sl) (c0 : Addr) (h : Heap) (R : Value -> Heap -> Prop) (H : W126 p0 c0 h R) : Fn Pz 126 #[vS p0, .pointer (some c0)] h R := fnI (A := .z) (by kernel_rfl) H

def W124 (p0 : Sl) (c0 : Addr) (c1 : Addr) (h : Heap) (R : Value -> Heap -> Prop) : Prop :=
 (Wn h [vS p0] 115 fun h1 =>
 (∃ x2, rS h1 c0 x2 /\
 (Fn Pz 125 #[vS x2, .func (.func 126) #[] #[.pointer (some (aS h 0))]] h1
 (fun v3 h5 => ∃ x4, iI v3 x4 /\
 (sB (decide (x4 >= 0))
 (R (vI x4) h5)
 ((∃ x6, rS h5 c0 x6 /\
 (∃ x7, rS h5 (aS h 0) x7 /\
 (∃ x8, rS h5 ⟨c0.block, c0.off + 1, none⟩ x8 /\
 (∃ x9, rS h5 (aS h 0) x9 /\
 (∃ x10, rI h5 ⟨c1.block, c1.off + 5, none⟩ x10 /\
 (Wn h5 [vS x7] 115 fun h11 =>
 (Sm [⟨c1.block, c1.off + 5, none⟩, (aS h 0), ⟨c0.block, c0.off + 1, none⟩, c0] h5 h11 /\
 (App Pz 107 107 (vS x6) (.slice (some (aS h5 0)) 1 1) h11 fun s12 h13 =>
 (Sm [⟨c1.block, c1.off + 5, none⟩, (aS h 0), ⟨c0.block, c0.off + 1, none⟩] h11 h13 /\
 (Fn Pz 128 #[vS x9, vI x10] h13
 (fun v14 h16 => ∃ x15, iB v14 x15 /\
 (Sm [⟨c0.block, c0.off + 1, none⟩, (aS h 0), c0] h13 h16 /\
 (Wn h16 [.bool x15] 4 fun h17 =>
 (Sm [⟨c0.block, c0.off + 1, none⟩, (aS h 0), c0] h16 h17 /\
 (App Pz 22 22 (vS x8) (.slice (some (aS h16 0)) 1 1) h17 fun s18 h19 =>
 (Sm [(aS h 0), c0] h17 h19 /\
 (Wp h19 c0 1 [vS s12] fun h20 =>
 (Sm [⟨c1.block, c1.off + 5, none⟩, (aS h 0)] h19 h20 /\
 (Wp h20 ⟨c0.block, c0.off + 1, none⟩ 1 [vS s18] fun h21 =>
 (∃ x22, rS h21 c0 x22 /\
 R (vI (IntKind.wrap .i64 ((x22.n : Int) - 1))) h21))))))))))))))))))))))))))
theorem vc124 (p0 : Sl) (c0 : Addr) (c1 : Addr) (h : Heap) (R : Value -> Heap -> Prop) (H : W124 p0 c0 c1 h R) : Fn Pz 124 #[vS p0, .pointer (some c0), .pointer (some c1)] h R := fnI (A := .z) (by kernel_rfl) H

def W70 (p0_1 : ByteArray) (p0_2 p0_3 : Sl) (p0_4 p0_5 p0_6 : Int) (p0_7 p0_8 : Sl) (p1 : Int) (h : Heap) (R : Value -> Heap -> Prop) : Prop :=
 (Wn h (L3 p0_1 p0_2 p0_3 p0_4 p0_5 p0_6 p0_7 p0_8) 59 fun h9 =>
 (Wn h9 [.slice none 0 0, .slice none 0 0, .slice none 0 0] 109 fun h10 =>
 (∃ x11 x12 x13 x14 x15 x16 x17 x18, aL3 h10 (aS h 0) x11 x12 x13 x14 x15 x16 x17 x18 /\
 (Fn Pz 123 #[.agg ⟨(L3 x11 x12 x13 x14 x15 x16 x17 x18)⟩, vI p1] h10
 (fun v19 h22 => ∃ x20 : Option Addr, ∃ x21 : Int, v19 = .tuple ⟨[.pointer x20, vI x21]⟩ /\
 (sB (x21 != 0)
 ((Wp h22 (aS h9 0) 3 [.slice none 0 0, .slice none 0 0, .slice none 0 0] fun h23 =>
 (∃ x24 x25 x26, aL9 h23 (aS h9 0) x24 x25 x26 /\
 R (.tuple ⟨[.agg ⟨(L9 x24 x25 x26)⟩, vI x21]⟩) h23)))
 ((Wn h22 [.slice none 0 0, .slice none 0 0, .slice none 0 0] 109 fun h27 =>
 (∃ x28, rI h27 (aS h 4) x28 /\
 (Wn h27 [vI x28] 3 fun h29 =>
 (Fn Pz 129 #[.pointer x20, .slice (some (aS h27 0)) 1 1] h29
 (fun v30 h32 => ∃ x31, iS v30 x31 /\
 (Fn Pz 124 #[vS x31, .pointer (some (aS h22 0)), .pointer (some (aS h 0))] h32
 (fun v33 h35 => ∃ x34, iI v33 x34 /\
 (QI 0 h35 fun I36 i_39 h40 m38 => (
 (∃ x41, rS h40 (aS h22 0) x41 /\
 (sB (decide (i_39 < (x41.n : Int)))
 ((∃ x42, rS h40 (aS h22 0) x42 /\
 (NB x42.a fun b43 o44 => (Ib i_39 x42.n /\
 (∃ x45, rS h40 ⟨b43, o44 + Int.toNat i_39 * 1, none⟩ x45 /\
 (Fn Pz 130 #[.pointer x20, vS x45] h40
 (fun v46 h48 => ∃ x47, iS v46 x47 /\
 (QI 0 h48 fun I49 x_52 h53 m51 => (
 (sB (decide (x_52 < (x47.n : Int)))
 ((NB x47.a fun b54 o55 => (Ib x_52 x47.n /\
 (∃ x56 x57 x58, aL2 h53 ⟨b54, o55 + Int.toNat x_52 * 3, none⟩ x56 x57 x58 /\
 (Wn h53 [.bool false, vI 0, vI 0] 179 fun h59 =>
 (Wp h59 (aS h53 0) 3 (L2 x56 x57 x58) fun h60 =>
 (∃ x61, rS h60 (aS h22 0) x61 /\
 (NB x61.a fun b62 o63 => (Ib i_39 x61.n /\
 (∃ x64, rS h60 ⟨b62, o63 + Int.toNat i_39 * 1, none⟩ x64 /\
 (∃ x65 x66 x67, aL2 h60 (aS h53 0) x65 x66 x67 /\
 (Fn Pz 131 #[.pointer x20, vS x64, .agg ⟨(L2 x65 x66 x67)⟩] h60
 (fun v68 h70 => ∃ x69, iS v68 x69 /\
 (Fn Pz 124 #[vS x69, .pointer (some (aS h22 0)), .pointer (some (aS h 0))] h70
 (fun v71 h73 => ∃ x72, iI v71 x72 /\
 (∃ x74, rS h73 (aS h22 2) x74 /\
 (∃ x75, rB h73 (aS h53 0) x75 /\
 (∃ x76, rI h73 (aS h53 1) x76 /\
 (∃ x77, rI h73 (aS h53 2) x77 /\
 (Wn h73 [vI i_39, .bool x75, vI x76, vI x77, vI x72, .bool false] 81 fun h78 =>
 (App Pz 23 23 (vS x74) (.slice (some (aS h73 0)) 1 1) h78 fun s79 h80 =>
 (Wp h80 (aS h22 2) 1 [vS s79] fun h81 =>
 (∃ m82, m82 < m51 /\ I49 (IntKind.wrap .i64 (x_52 + 1)) h81 m82)))))))))))))))))))))))
 ((∃ x83, rS h53 (aS h22 0) x83 /\
 (sB (decide ((x83.n : Int) > 200))
 ((Wp h53 (aS h9 0) 3 [.slice none 0 0, .slice none 0 0, .slice none 0 0] fun h84 =>
 (∃ x85 x86 x87, aL9 h84 (aS h9 0) x85 x86 x87 /\
 R (.tuple ⟨[.agg ⟨(L9 x85 x86 x87)⟩, vI 6]⟩) h84)))
 ((∃ m88, m88 < m38 /\ I36 (IntKind.wrap .i64 (i_39 + 1)) h53 m88)))))))))))))))
 ((∃ x89 x90 x91, aL9 h40 (aS h22 0) x89 x90 x91 /\
 (Wp h40 (aS h9 0) 3 (L9 x89 x90 x91) fun h92 =>
 (∃ x93 x94 x95, aL9 h92 (aS h9 0) x93 x94 x95 /\
 R (.tuple ⟨[.agg ⟨(L9 x93 x94 x95)⟩, vI 0]⟩) h92))))))))))))))))))))))
theorem vc70 (p0_1 : ByteArray) (p0_2 p0_3 : Sl) (p0_4 p0_5 p0_6 : Int) (p0_7 p0_8 : Sl) (p1 : Int) (h : Heap) (R : Value -> Heap -> Prop) (H : W70 p0_1 p0_2 p0_3 p0_4 p0_5 p0_6 p0_7 p0_8 p1 h R) : Fn Pz 70 #[.agg ⟨(L3 p0_1 p0_2 p0_3 p0_4 p0_5 p0_6 p0_7 p0_8)⟩, vI p1] h R := fnI (A := (.s .z (.s .z (.s .z (.s .z (.s .z (.s .z (.s (.s .z (.b (.l [(10, .one (.int .i64))] (.s .z (.s (.b (.s (.s .z (.b (.l [(47, .one (.int .i64))] .z))) .z)) .z))))) .z)))))))) (by kernel_rfl) H

def W154 (p0 : Sl) (h : Heap) (R : Value -> Heap -> Prop) : Prop :=
 (QI 0 h fun I1 x_4 h5 m3 => (
 (sB (decide (x_4 < (p0.n : Int)))
 ((NB p0.a fun b6 o7 => (Ib x_4 p0.n /\
 (∃ x8, rI h5 ⟨b6, o7 + Int.toNat x_4 * 1, none⟩ x8 /\
 (sB (x8 != 0)
 (R (vI x8) h5)
 ((∃ m9, m9 < m3 /\ I1 (IntKind.wrap .i64 (x_4 + 1)) h5 m9)))))))
 (R (vI 0) h5))))
theorem vc154 (p0 : Sl) (h : Heap) (R : Value -> Heap -> Prop) (H : W154 p0 h R) : Fn Pz 154 #[vS p0] h R := fnI (A := (.s .z (.s .z (.s (.s .z (.b (.l [(8, .one (.int .i64))] .z))) .z)))) (by kernel_rfl) H

def W155 (p0 p1 : Int) (h : Heap) (R : Value -> Heap -> Prop) : Prop :=
 (Fn Pz 185 #[vI p0] h
 (fun v1 h3 => ∃ x2, iB v1 x2 /\
 (Fn Pz 185 #[vI p1] h3
 (fun v4 h6 => ∃ x5, iB v4 x5 /\
 (sB x2
 ((sB x5
 (R (vI 0) h6)
 (R (vI (-1)) h6)))
 ((sB x5
 (R (vI 1) h6)
 ((sB (decide (p0 < p1))
 (R (vI (-1)) h6)
 ((sB (decide (p0 > p1))
 (R (vI 1) h6)
 (R (vI 0) h6))))))))))))
theorem vc155 (p0 p1 : Int) (h : Heap) (R : Value -> Heap -> Prop) (H : W155 p0 p1 h R) : Fn Pz 155 #[vI p0, vI p1] h R := fnI (A := .z) (by kernel_rfl) H

def W185 (p0 : Int) (h : Heap) (R : Value -> Heap -> Prop) : Prop :=
 R (.bool (p0 != p0)) h
theorem vc185 (p0 : Int) (h : Heap) (R : Value -> Heap -> Prop) (H : W185 p0 h R) : Fn Pz 185 #[vI p0] h R := fnI (A := .z) (by kernel_rfl) H

end Go.VC
end

section
namespace Go.VC
open Go.Proofs

def W204 (p0 : ByteArray) (h : Heap) (R : Value -> Heap -> Prop) : Prop :=
 (sB ((ByteArray.toList p0) == (ByteArray.toList ⟨#[]⟩))
 (R (.bool false) h)
 ((sB (decide ((ByteArray.size p0 : Int) > 16))
 (R (.bool false) h)
 (((0 <= (0 : Int) /\ (0 : Int) < (ByteArray.size p0 : Nat)) /\
 (Fn Pz 232 #[.int .u8 (byteAt p0 (Int.toNat 0) : Int)] h
 (fun v1 h3 => ∃ x2, iB v1 x2 /\
 (sB (!x2)
 (R (.bool false) h3)
 ((QI 0 h3 fun I4 x_7 h8 m6 => (
 (sB (decide (x_7 < (ByteArray.size p0 : Int)))
 (((0 <= (x_7 : Int) /\ (x_7 : Int) < (ByteArray.size p0 : Nat)) /\
 (Fn Pz 233 #[.int .u8 (byteAt p0 (Int.toNat x_7) : Int)] h8
 (fun v9 h11 => ∃ x10, iB v9 x10 /\
 (sB (!x10)
 (R (.bool false) h11)
 ((∃ m12, m12 < m6 /\ I4 (IntKind.wrap .i64 (x_7 + 1)) h11 m12)))))))
 (R (.bool true) h8)))))))))))))
theorem vc204 (p0 : ByteArray) (h : Heap) (R : Value -> Heap -> Prop) (H : W204 p0 h R) : Fn Pz 204 #[.string p0] h R := fnI (A := (.s .z (.s .z (.s (.s .z (.b (.l [(19, .one (.int .i64))] .z))) .z)))) (by kernel_rfl) H

def W167 (p0 : ByteArray) (h : Heap) (R : Value -> Heap -> Prop) : Prop :=
 (Wn h [.string ⟨#[]⟩, .string ⟨#[]⟩, .string ⟨#[]⟩, .string ⟨#[]⟩, .string ⟨#[]⟩, .string ⟨#[]⟩, .string ⟨#[]⟩, .string ⟨#[]⟩, .string ⟨#[]⟩, .string ⟨#[]⟩, .string ⟨#[]⟩, .string ⟨#[]⟩, .string ⟨#[]⟩, .string ⟨#[]⟩, .string ⟨#[]⟩, .string ⟨#[]⟩, .string ⟨#[]⟩, .string ⟨#[]⟩, .string ⟨#[]⟩, .string ⟨#[]⟩, .string ⟨#[]⟩, .string ⟨#[]⟩, .string ⟨#[]⟩, .string ⟨#[]⟩, .string ⟨#[]⟩, .string ⟨#[]⟩, .string ⟨#[]⟩, .string ⟨#[]⟩] 260 fun h1 =>
 (Wp h1 (aS h 0) 28 [.string ⟨#[97, 103, 97, 105, 110]⟩, .string ⟨#[97, 110, 100]⟩, .string ⟨#[97, 115]⟩, .string ⟨#[97, 116]⟩, .string ⟨#[99, 97, 108, 108]⟩, .string ⟨#[99, 104, 111, 105, 99, 101]⟩, .string ⟨#[101, 108, 115, 101]⟩, .string ⟨#[102, 114, 111, 109]⟩, .string ⟨#[105, 102]⟩, .string ⟨#[105, 110, 116]⟩, .string ⟨#[108, 101, 110]⟩, .string ⟨#[108, 111, 111, 112]⟩, .string ⟨#[109, 101, 115, 115, 97, 103, 101]⟩, .string ⟨#[111, 102]⟩, .string ⟨#[111, 102, 102, 101, 114]⟩, .string ⟨#[111, 110]⟩, .string ⟨#[111, 114]⟩, .string ⟨#[112, 97, 114]⟩, .string ⟨#[112, 108, 97, 121, 115]⟩, .string ⟨#[112, 114, 111, 116, 111, 99, 111, 108]⟩, .string ⟨#[115, 101, 114, 118, 105, 99, 101]⟩, .string ⟨#[116, 101, 120, 116]⟩, .string ⟨#[116, 105, 109, 101, 115]⟩, .string ⟨#[116, 111]⟩, .string ⟨#[118, 97, 114]⟩, .string ⟨#[119, 104, 101, 114, 101]⟩, .string ⟨#[119, 104, 105, 108, 101]⟩, .string ⟨#[119, 105, 116, 104, 105, 110]⟩] fun h2 =>
 (Fn Pz 204 #[.string p0] h2
 (fun v3 h5 => ∃ x4, iB v3 x4 /\
 (sB x4
 ((((0 : Int) <= (0 : Int) /\ (0 : Int) <= ((28 : Nat) : Int) /\ ((28 : Nat) : Int) <= (28 : Nat)) /\
 (Fn Pz 168 #[.slice (subA (some (aS h 0)) (Int.toNat 0) 28 1) (Int.toNat (28 : Nat) - Int.toNat 0) (28 - Int.toNat 0), .string p0] h5
 (fun v6 h8 => ∃ x7, iB v6 x7 /\
 R (.bool (!x7)) h8))))
 (R (.bool false) h5))))))
theorem vc167 (p0 : ByteArray) (h : Heap) (R : Value -> Heap -> Prop) (H : W167 p0 h R) : Fn Pz 167 #[.string p0] h R := fnI (A := .z) (by kernel_rfl) H

def W232 (p0 : Int) (h : Heap) (R : Value -> Heap -> Prop) : Prop :=
 (sB (decide ((97 : Int) <= p0))
 ((sB (decide (p0 <= 122))
 (R (.bool true) h)
 ((sB (decide ((65 : Int) <= p0))
 (R (.bool (decide (p0 <= 90))) h)
 (R (.bool false) h)))))
 ((sB (decide ((65 : Int) <= p0))
 (R (.bool (decide (p0 <= 90))) h)
 (R (.bool false) h))))
theorem vc232 (p0 : Int) (h : Heap) (R : Value -> Heap -> Prop) (H : W232 p0 h R) : Fn Pz 232 #[.int .u8 p0] h R := fnI (A := .z) (by kernel_rfl) H

def W233 (p0 : Int) (h : Heap) (R : Value -> Heap -> Prop) : Prop :=
 (Fn Pz 232 #[.int .u8 p0] h
 (fun v1 h3 => ∃ x2, iB v1 x2 /\
 (sB x2
 (R (.bool true) h3)
 ((Fn Pz 258 #[.int .u8 p0] h3
 (fun v4 h6 => ∃ x5, iB v4 x5 /\
 (sB x5
 (R (.bool true) h6)
 (R (.bool (p0 == 95)) h6))))))))
theorem vc233 (p0 : Int) (h : Heap) (R : Value -> Heap -> Prop) (H : W233 p0 h R) : Fn Pz 233 #[.int .u8 p0] h R := fnI (A := .z) (by kernel_rfl) H

def W258 (p0 : Int) (h : Heap) (R : Value -> Heap -> Prop) : Prop :=
 (sB (decide ((48 : Int) <= p0))
 (R (.bool (decide (p0 <= 57))) h)
 (R (.bool false) h))
theorem vc258 (p0 : Int) (h : Heap) (R : Value -> Heap -> Prop) (H : W258 p0 h R) : Fn Pz 258 #[.int .u8 p0] h R := fnI (A := .z) (by kernel_rfl) H

def W205 (p0 : Sl) (p1 : ByteArray) (h : Heap) (R : Value -> Heap -> Prop) : Prop :=
 (QI 0 h fun I1 x_4 h5 m3 => (
 (sB (decide (x_4 < (p0.n : Int)))
 ((NB p0.a fun b6 o7 => (Ib x_4 p0.n /\
 (∃ x8, rT h5 ⟨b6, o7 + Int.toNat x_4 * 1, none⟩ x8 /\
 (sB ((ByteArray.toList p1) == (ByteArray.toList x8))
 (R (vI x_4) h5)
 ((∃ m9, m9 < m3 /\ I1 (IntKind.wrap .i64 (x_4 + 1)) h5 m9)))))))
 (R (vI (-1)) h5))))
theorem vc205 (p0 : Sl) (p1 : ByteArray) (h : Heap) (R : Value -> Heap -> Prop) (H : W205 p0 p1 h R) : Fn Pz 205 #[vS p0, .string p1] h R := fnI (A := (.s .z (.s (.s .z (.b (.l [(8, .one (.int .i64))] .z))) .z))) (by kernel_rfl) H

def W168 (p0 : Sl) (p1 : ByteArray) (h : Heap) (R : Value -> Heap -> Prop) : Prop :=
 (Fn Pz 205 #[vS p0, .string p1] h
 (fun v1 h3 => ∃ x2, iI v1 x2 /\
 R (.bool (decide (x2 >= 0))) h3))
theorem vc168 (p0 : Sl) (p1 : ByteArray) (h : Heap) (R : Value -> Heap -> Prop) (H : W168 p0 p1 h R) : Fn Pz 168 #[vS p0, .string p1] h R := fnI (A := .z) (by kernel_rfl) H

def W268 (p0 : Sl) (p1 : FuncId) (h : Heap) (R : Value -> Heap -> Prop) : Prop :=
 (QI 0 h fun I1 x_4 h5 m3 => (
 (sB (decide (x_4 < (p0.n : Int)))
 ((NB p0.a fun b6 o7 => (Ib x_4 p0.n /\
 (∃ x8, rT h5 ⟨b6, o7 + Int.toNat x_4 * 1, none⟩ x8 /\
 (bif callable Pz p1 then Fn Pz p1 #[.string x8] h5
 (fun v9 h11 => ∃ x10, iB v9 x10 /\
 (sB x10
 (R (vI x_4) h11)
 ((∃ m12, m12 < m3 /\ I1 (IntKind.wrap .i64 (x_4 + 1)) h11 m12)))) else ExtW Pz p1 #[.string x8] h5
 (fun v9 h11 => ∃ x10, iB v9 x10 /\
 (sB x10
 (R (vI x_4) h11)
 ((∃ m12, m12 < m3 /\ I1 (IntKind.wrap .i64 (x_4 + 1)) h11 m12)))))))))
 (R (vI (-1)) h5))))
theorem vc268 (p0 : Sl) (p1 : FuncId) (h : Heap) (R : Value -> Heap -> Prop) (H : W268 p0 p1 h R) : Fn Pz 268 #[vS p0, .func (.func p1) #[] #[]] h R := fnI (A := (.s .z (.s (.s .z (.b (.l [(8, .one (.int .i64))] .z))) .z))) (by kernel_rfl) H

def W259 (p0 : Sl) (p1 : Value) (h : Heap) (R : Value -> Heap -> Prop) : Prop :=
 (Fn Pz 268 #[vS p0, p1] h
 (fun v1 h3 => ∃ x2, iI v1 x2 /\
 R (.bool (decide (x2 >= 0))) h3))
theorem vc259 (p0 : Sl) (p1 : Value) (h : Heap) (R : Value -> Heap -> Prop) (H : W259 p0 p1 h R) : Fn Pz 259 #[vS p0, p1] h R := fnI (A := .z) (by kernel_rfl) H

def W261 (p0 : ByteArray) (h : Heap) (R : Value -> Heap -> Prop) : Prop :=
 (Fn Pz 167 #[.string p0] h
 (fun v1 h3 => ∃ x2, iB v1 x2 /\
 R (.bool (!x2)) h3))
theorem vc261 (p0 : ByteArray) (h : Heap) (R : Value -> Heap -> Prop) (H : W261 p0 h R) : Fn Pz 261 #[.string p0] h R := fnI (A := .z) (by kernel_rfl) H

def W235 (p0 : ByteArray) (h : Heap) (R : Value -> Heap -> Prop) : Prop :=
 (sB (decide ((ByteArray.size p0 : Int) <= 50))
 ((Fn Pz 260 #[.string p0, .string ⟨#[46]⟩] h
 (fun v1 h3 => ∃ x2, iS v1 x2 /\
 (Fn Pz 259 #[vS x2, .func (.func 261) #[] #[]] h3
 (fun v4 h6 => ∃ x5, iB v4 x5 /\
 R (.bool (!x5)) h6)))))
 (R (.bool false) h))
theorem vc235 (p0 : ByteArray) (h : Heap) (R : Value -> Heap -> Prop) (H : W235 p0 h R) : Fn Pz 235 #[.string p0] h R := fnI (A := .z) (by kernel_rfl) H

def W234 (p0 : Sl) (h : Heap) (R : Value -> Heap -> Prop) : Prop :=
 (QSI ⟨none, 0, 0⟩ 0 h fun I1 out_4 x_5 h6 m3 => (
 (sB (decide (x_5 < (p0.n : Int)))
 ((NB p0.a fun b7 o8 => (Ib x_5 p0.n /\
 (∃ x9 x10 x11 x12 x13, aL8 h6 ⟨b7, o8 + Int.toNat x_5 * 5, none⟩ x9 x10 x11 x12 x13 /\
 (Wn h6 [.string ⟨#[]⟩, .slice none 0 0, vI 0, .slice none 0 0, .slice none 0 0] 153 fun h14 =>
 (Wp h14 (aS h6 0) 5 (L8 x9 x10 x11 x12 x13) fun h15 =>
 (∃ x16, rS h15 (aS h6 1) x16 /\
 (App Pz 147 147 (vS out_4) (vS x16) h15 fun s17 h18 =>
 (∃ m19, m19 < m3 /\ I1 s17 (IntKind.wrap .i64 (x_5 + 1)) h18 m19)))))))))
 (R (vS out_4) h6))))
theorem vc234 (p0 : Sl) (h : Heap) (R : Value -> Heap -> Prop) (H : W234 p0 h R) : Fn Pz 234 #[vS p0] h R := fnI (A := (.s .z (.s .z (.s (.s .z (.b (.l [(3, .one (.slice)), (8, .one (.int .i64))] .z))) .z)))) (by kernel_rfl) H

def W237 (p0_1 : ByteArray) (p0_2 : Sl) (p0_3 : Int) (p0_4 p0_5 : Sl) (c0 : Addr) (h : Heap) (R : Value -> Heap -> Prop) : Prop :=
 (Wn h (L8 p0_1 p0_2 p0_3 p0_4 p0_5) 153 fun h6 =>
 (∃ x7, rT h6 (aS h 0) x7 /\
 (∃ x8, rT h6 c0 x8 /\
 R (.bool ((ByteArray.toList x7) == (ByteArray.toList x8))) h6)))
theorem vc237 (p0_1 : ByteArray) (p0_2 : Sl) (p0_3 : Int) (p0_4 p0_5 : Sl) (c0 : Addr) (h : Heap) (R : Value -> Heap -> Prop) (H : W237 p0_1 p0_2 p0_3 p0_4 p0_5 c0 h R) : Fn Pz 237 #[.agg ⟨(L8 p0_1 p0_2 p0_3 p0_4 p0_5)⟩, .pointer (some c0)] h R := fnI (A := .z) (by kernel_rfl) H

def W240 (p0_1 : ByteArray) (p0_2 p0_3 p0_4 : Int) (c0 : Addr) (h : Heap) (R : Value -> Heap -> Prop) : Prop :=
 (Wn h (L10 p0_1 p0_2 p0_3 p0_4) 248 fun h5 =>
 (∃ x6, rT h5 (aS h 0) x6 /\
 (∃ x7, rT h5 c0 x7 /\
 R (.bool ((ByteArray.toList x6) == (ByteArray.toList x7))) h5)))
theorem vc240 (p0_1 : ByteArray) (p0_2 p0_3 p0_4 : Int) (c0 : Addr) (h : Heap) (R : Value -> Heap -> Prop) (H : W240 p0_1 p0_2 p0_3 p0_4 c0 h R) : Fn Pz 240 #[.agg ⟨(L10 p0_1 p0_2 p0_3 p0_4)⟩, .pointer (some c0)] h R := fnI (A := .z) (by kernel_rfl) H

def W238 (p0_1 p0_2 p0_3 : Int) (h : Heap) (R : Value -> Heap -> Prop) : Prop :=
 (Wn h (L4 p0_1 p0_2 p0_3) 246 fun h4 =>
 (∃ x5, rI h4 (aS h 0) x5 /\
 (sB (x5 == 1)
 ((∃ x6, rI h4 (aS h 1) x6 /\
 (sB (decide (x6 >= (-1000)))
 ((∃ x7, rI h4 (aS h 1) x7 /\
 (∃ x8, rI h4 (aS h 2) x8 /\
 (sB (decide (x7 <= x8))
 ((∃ x9, rI h4 (aS h 2) x9 /\
 R (.bool (decide (x9 <= 1000))) h4))
 (R (.bool false) h4)))))
 (R (.bool false) h4))))
 ((sB (x5 == 2)
 ((∃ x10, rI h4 (aS h 1) x10 /\
 (sB (decide (x10 >= 0))
 ((∃ x11, rI h4 (aS h 1) x11 /\
 (∃ x12, rI h4 (aS h 2) x12 /\
 (sB (decide (x11 <= x12))
 ((∃ x13, rI h4 (aS h 2) x13 /\
 R (.bool (decide (x13 <= 40))) h4))
 (R (.bool false) h4)))))
 (R (.bool false) h4))))
 (R (.bool false) h4))))))
theorem vc238 (p0_1 p0_2 p0_3 : Int) (h : Heap) (R : Value -> Heap -> Prop) (H : W238 p0_1 p0_2 p0_3 h R) : Fn Pz 238 #[.agg ⟨(L4 p0_1 p0_2 p0_3)⟩] h R := fnI (A := .z) (by kernel_rfl) H

def W262 (p0 : Sl) (p1 : FuncId) (p1c : Option Addr) (h : Heap) (R : Value -> Heap -> Prop) : Prop :=
 (QI 0 h fun I1 x_4 h5 m3 => (
 (sB (decide (x_4 < (p0.n : Int)))
 ((NB p0.a fun b6 o7 => (Ib x_4 p0.n /\
 (∃ x8 x9 x10 x11 x12, aL8 h5 ⟨b6, o7 + Int.toNat x_4 * 5, none⟩ x8 x9 x10 x11 x12 /\
 (bif callable Pz p1 then Fn Pz p1 #[.agg ⟨(L8 x8 x9 x10 x11 x12)⟩, .pointer p1c] h5
 (fun v13 h15 => ∃ x14, iB v13 x14 /\
 (sB x14
 (R (vI x_4) h15)
 ((∃ m16, m16 < m3 /\ I1 (IntKind.wrap .i64 (x_4 + 1)) h15 m16)))) else ExtW Pz p1 #[.agg ⟨(L8 x8 x9 x10 x11 x12)⟩, .pointer p1c] h5
 (fun v13 h15 => ∃ x14, iB v13 x14 /\
 (sB x14
 (R (vI x_4) h15)
 ((∃ m16, m16 < m3 /\ I1 (IntKind.wrap .i64 (x_4 + 1)) h15 m16)))))))))
 (R (vI (-1)) h5))))
theorem vc262 (p0 : Sl) (p1 : FuncId) (p1c : Option Addr) (h : Heap) (R : Value -> Heap -> Prop) (H : W262 p0 p1 p1c h R) : Fn Pz 262 #[vS p0, .func (.func p1) #[] #[.pointer p1c]] h R := fnI (A := (.s .z (.s (.s .z (.b (.l [(8, .one (.int .i64))] .z))) .z))) (by kernel_rfl) H

def W263 (p0 : Sl) (p1 : FuncId) (p1c : Option Addr) (h : Heap) (R : Value -> Heap -> Prop) : Prop :=
 (QI 0 h fun I1 x_4 h5 m3 => (
 (sB (decide (x_4 < (p0.n : Int)))
 ((NB p0.a fun b6 o7 => (Ib x_4 p0.n /\
 (∃ x8 x9 x10 x11, aL10 h5 ⟨b6, o7 + Int.toNat x_4 * 4, none⟩ x8 x9 x10 x11 /\
 (bif callable Pz p1 then Fn Pz p1 #[.agg ⟨(L10 x8 x9 x10 x11)⟩, .pointer p1c] h5
 (fun v12 h14 => ∃ x13, iB v12 x13 /\
 (sB x13
 (R (vI x_4) h14)
 ((∃ m15, m15 < m3 /\ I1 (IntKind.wrap .i64 (x_4 + 1)) h14 m15)))) else ExtW Pz p1 #[.agg ⟨(L10 x8 x9 x10 x11)⟩, .pointer p1c] h5
 (fun v12 h14 => ∃ x13, iB v12 x13 /\
 (sB x13
 (R (vI x_4) h14)
 ((∃ m15, m15 < m3 /\ I1 (IntKind.wrap .i64 (x_4 + 1)) h14 m15)))))))))
 (R (vI (-1)) h5))))
theorem vc263 (p0 : Sl) (p1 : FuncId) (p1c : Option Addr) (h : Heap) (R : Value -> Heap -> Prop) (H : W263 p0 p1 p1c h R) : Fn Pz 263 #[vS p0, .func (.func p1) #[] #[.pointer p1c]] h R := fnI (A := (.s .z (.s (.s .z (.b (.l [(8, .one (.int .i64))] .z))) .z))) (by kernel_rfl) H

def W236 (p0 : Sl) (p1 : Value) (h : Heap) (R : Value -> Heap -> Prop) : Prop :=
 (Fn Pz 262 #[vS p0, p1] h
 (fun v1 h3 => ∃ x2, iI v1 x2 /\
 R (.bool (decide (x2 >= 0))) h3))
theorem vc236 (p0 : Sl) (p1 : Value) (h : Heap) (R : Value -> Heap -> Prop) (H : W236 p0 p1 h R) : Fn Pz 236 #[vS p0, p1] h R := fnI (A := .z) (by kernel_rfl) H

def W239 (p0 : Sl) (p1 : Value) (h : Heap) (R : Value -> Heap -> Prop) : Prop :=
 (Fn Pz 263 #[vS p0, p1] h
 (fun v1 h3 => ∃ x2, iI v1 x2 /\
 R (.bool (decide (x2 >= 0))) h3))
theorem vc239 (p0 : Sl) (p1 : Value) (h : Heap) (R : Value -> Heap -> Prop) (H : W239 p0 p1 h R) : Fn Pz 239 #[vS p0, p1] h R := fnI (A := .z) (by kernel_rfl) H

def W241 (p0_1 p0_2 p1 : Sl) (h : Heap) (R : Value -> Heap -> Prop) : Prop :=
 (Wn h [vS p0_1, vS p0_2] 151 fun h3 =>
 (∃ x4, rS h3 (aS h 0) x4 /\
 (sB (decide ((x4.n : Int) > 20))
 (R (.bool false) h3)
 ((∃ x5, rS h3 (aS h 1) x5 /\
 (sB (decide ((x5.n : Int) > 20))
 (R (.bool false) h3)
 ((∃ x6, rS h3 (aS h 0) x6 /\
 (QI 0 h3 fun I7 x_10 h11 m9 => (
 (sB (decide (x_10 < (x6.n : Int)))
 ((NB x6.a fun b12 o13 => (Ib x_10 x6.n /\
 (∃ x14 x15 x16, aL4 h11 ⟨b12, o13 + Int.toNat x_10 * 3, none⟩ x14 x15 x16 /\
 (Wn h11 [vI 0, vI 0, vI 0] 277 fun h17 =>
 (Wp h17 (aS h11 0) 3 (L4 x14 x15 x16) fun h18 =>
 (∃ x19, rI h18 (aS h11 0) x19 /\
 (∃ x20, rI h18 (aS h11 1) x20 /\
 (sB (decide ((imin x19 x20) < (-1)))
 (R (.bool false) h18)
 ((∃ x21, rI h18 (aS h11 0) x21 /\
 (∃ x22, rI h18 (aS h11 1) x22 /\
 (sB (decide ((imax x21 x22) >= (p1.n : Int)))
 (R (.bool false) h18)
 ((∃ x23, rI h18 (aS h11 2) x23 /\
 (sB (decide (x23 < (-20000)))
 (R (.bool false) h18)
 ((∃ x24, rI h18 (aS h11 2) x24 /\
 (sB (decide (x24 > 20000))
 (R (.bool false) h18)
 ((∃ m25, m25 < m9 /\ I7 (IntKind.wrap .i64 (x_10 + 1)) h18 m25)))))))))))))))))))))
 ((∃ x26, rS h11 (aS h 1) x26 /\
 (QI 0 h11 fun I27 x_30 h31 m29 => (
 (sB (decide (x_30 < (x26.n : Int)))
 ((NB x26.a fun b32 o33 => (Ib x_30 x26.n /\
 (∃ (x34 x35 : Int), atC h31 ⟨b32, o33 + Int.toNat x_30 * 2, none⟩ [vI x34, vI x35] /\
 (Wn h31 [vI 0, vI 0] 94 fun h36 =>
 (Wp h36 (aS h31 0) 2 [vI x34, vI x35] fun h37 =>
 (∃ (x38 x39 : Int), atC h37 (aS h31 0) [vI x38, vI x39] /\
 (QI 0 h37 fun I40 x_43 h44 m42 => (
 (sB (decide (x_43 < 2))
 ((Ib x_43 2 /\ ∃ x45 : Int, List.take 1 (List.drop (Int.toNat x_43 * 1) ([vI x38, vI x39] : List Value)) = [vI x45] /\
 (sB (decide (x45 < 0))
 (R (.bool false) h44)
 ((sB (decide (x45 >= (p1.n : Int)))
 (R (.bool false) h44)
 ((NB p1.a fun b46 o47 => (Ib x45 p1.n /\
 (∃ x48, rI h44 ⟨b46, o47 + Int.toNat x45 * 4 + 1, none⟩ x48 /\
 (sB (x48 != 2)
 (R (.bool false) h44)
 ((∃ m49, m49 < m42 /\ I40 (IntKind.wrap .i64 (x_43 + 1)) h44 m49))))))))))))
 ((∃ m50, m50 < m29 /\ I27 (IntKind.wrap .i64 (x_30 + 1)) h44 m50))))))))))))
 (R (.bool true) h31)))))))))))))))))
theorem vc241 (p0_1 p0_2 p1 : Sl) (h : Heap) (R : Value -> Heap -> Prop) (H : W241 p0_1 p0_2 p1 h R) : Fn Pz 241 #[.agg ⟨[vS p0_1, vS p0_2]⟩, vS p1] h R := fnI (A := (.s .z (.s .z (.s (.s .z (.b (.l [(24, .one (.int .i64))] .z))) (.s (.s .z (.b (.l [(58, .one (.int .i64))] (.s .z (.s .z (.s (.b (.s .z (.s .z (.b (.l [(63, .one (.int .i64))] .z))))) .z)))))) .z))))) (by kernel_rfl) H

def W206 (p0 : Sl) (h : Heap) (R : Value -> Heap -> Prop) : Prop :=
 (sB (decide ((p0.n : Int) > 40))
 (R (.bool false) h)
 ((Fn Pz 234 #[vS p0] h
 (fun v1 h3 => ∃ x2, iS v1 x2 /\
 (sB (decide ((x2.n : Int) > 24))
 (R (.bool false) h3)
 ((QII 0 0 h3 fun I4 at_7 x_8 h9 m6 => (
 (sB (decide (x_8 < (p0.n : Int)))
 ((NB p0.a fun b10 o11 => (Ib x_8 p0.n /\
 (∃ x12 x13 x14 x15 x16, aL8 h9 ⟨b10, o11 + Int.toNat x_8 * 5, none⟩ x12 x13 x14 x15 x16 /\
 (Wn h9 [.string ⟨#[]⟩, .slice none 0 0, vI 0, .slice none 0 0, .slice none 0 0] 153 fun h17 =>
 (Wp h17 (aS h9 0) 5 (L8 x12 x13 x14 x15 x16) fun h18 =>
 (∃ x19, rT h18 (aS h9 0) x19 /\
 (Fn Pz 235 #[.string x19] h18
 (fun v20 h22 => ∃ x21, iB v20 x21 /\
 (sB (!x21)
 (R (.bool false) h22)
 ((∃ x23, rS h22 (aS h9 1) x23 /\
 (sB (decide ((x23.n : Int) > 4))
 (R (.bool false) h22)
 ((∃ x24, rI h22 (aS h9 2) x24 /\
 (sB (x24 != at_7)
 (R (.bool false) h22)
 ((((0 : Int) <= (0 : Int) /\ (0 : Int) <= (x_8 : Int) /\ (x_8 : Int) <= (p0.c : Nat)) /\
 (Fn Pz 236 #[.slice (subA p0.a (Int.toNat 0) p0.c 5) (Int.toNat x_8 - Int.toNat 0) (p0.c - Int.toNat 0), .func (.func 237) #[] #[.pointer (some (aS h9 0))]] h22
 (fun v25 h27 => ∃ x26, iB v25 x26 /\
 (sB x26
 (R (.bool false) h27)
 ((∃ x28, rS h27 (aS h9 1) x28 /\
 (∃ x29, rS h27 (aS h9 1) x29 /\
 (QI 0 h27 fun I30 x_33 h34 m32 => (
 (sB (decide (x_33 < (x29.n : Int)))
 ((NB x29.a fun b35 o36 => (Ib x_33 x29.n /\
 (∃ x37 x38 x39 x40, aL10 h34 ⟨b35, o36 + Int.toNat x_33 * 4, none⟩ x37 x38 x39 x40 /\
 (Wn h34 [.string ⟨#[]⟩, vI 0, vI 0, vI 0] 248 fun h41 =>
 (Wp h41 (aS h34 0) 4 (L10 x37 x38 x39 x40) fun h42 =>
 (∃ x43, rT h42 (aS h34 0) x43 /\
 (Fn Pz 167 #[.string x43] h42
 (fun v44 h46 => ∃ x45, iB v44 x45 /\
 (sB (!x45)
 (R (.bool false) h46)
 ((∃ x47 x48 x49, aL4 h46 (aS h34 1) x47 x48 x49 /\
 (Fn Pz 238 #[.agg ⟨(L4 x47 x48 x49)⟩] h46
 (fun v50 h52 => ∃ x51, iB v50 x51 /\
 (sB (!x51)
 (R (.bool false) h52)
 ((∃ x53, rS h52 (aS h9 1) x53 /\
 (((0 : Int) <= (0 : Int) /\ (0 : Int) <= (x_33 : Int) /\ (x_33 : Int) <= (x53.c : Nat)) /\
 (Fn Pz 239 #[.slice (subA x53.a (Int.toNat 0) x53.c 4) (Int.toNat x_33 - Int.toNat 0) (x53.c - Int.toNat 0), .func (.func 240) #[] #[.pointer (some (aS h34 0))]] h52
 (fun v54 h56 => ∃ x55, iB v54 x55 /\
 (sB x55
 (R (.bool false) h56)
 ((∃ m57, m57 < m32 /\ I30 (IntKind.wrap .i64 (x_33 + 1)) h56 m57)))))))))))))))))))))))
 ((∃ (x58 x59 : Sl), atC h34 (aS h9 3) [vS x58, vS x59] /\
 (Fn Pz 241 #[.agg ⟨[vS x58, vS x59]⟩, vS x2] h34
 (fun v60 h62 => ∃ x61, iB v60 x61 /\
 (sB (!x61)
 (R (.bool false) h62)
 ((∃ m63, m63 < m6 /\ I4 (IntKind.wrap .i64 (at_7 + (x28.n : Int))) (IntKind.wrap .i64 (x_8 + 1)) h62 m63))))))))))))))))))))))))))))))))))
 (R (.bool true) h9))))))))))
theorem vc206 (p0 : Sl) (h : Heap) (R : Value -> Heap -> Prop) (H : W206 p0 h R) : Fn Pz 206 #[vS p0] h R := fnI (A := (.s .z (.s .z (.s .z (.s .z (.s .z (.s (.s .z (.b (.l [(4, .one (.int .i64)), (19, .one (.int .i64))] (.s .z (.s .z (.s (.b (.s .z (.s .z (.s .z (.s (.s .z (.b (.l [(55, .one (.int .i64))] .z))) .z))))) .z)))))) .z))))))) (by kernel_rfl) H

def W207 (p0_1 : ByteArray) (p0_2 : Sl) (p0_3 : Int) (p0_4 p0_5 : Sl) (h : Heap) (R : Value -> Heap -> Prop) : Prop :=
 (Wn h (L8 p0_1 p0_2 p0_3 p0_4 p0_5) 153 fun h6 =>
 (∃ x7, rS h6 (aS h 1) x7 /\
 (QSI ⟨none, 0, 0⟩ 0 h6 fun I8 out_11 x_12 h13 m10 => (
 (sB (decide (x_12 < (x7.n : Int)))
 ((NB x7.a fun b14 o15 => (Ib x_12 x7.n /\
 (∃ x16 x17 x18 x19, aL10 h13 ⟨b14, o15 + Int.toNat x_12 * 4, none⟩ x16 x17 x18 x19 /\
 (Wn h13 [.string ⟨#[]⟩, vI 0, vI 0, vI 0] 248 fun h20 =>
 (Wp h20 (aS h13 0) 4 (L10 x16 x17 x18 x19) fun h21 =>
 (∃ x22, rI h21 (aS h 2) x22 /\
 (∃ x23, rI h21 (aS h13 (1 + 2)) x23 /\
 (∃ x24, rI h21 (aS h 2) x24 /\
 (∃ x25, rI h21 (aS h13 (1 + 1)) x25 /\
 (Wn h21 [vI (IntKind.wrap .i64 (x22 + x_12)), vI (-1), vI x23, vI (-1), vI (IntKind.wrap .i64 (x24 + x_12)), vI (IntKind.wrap .i64 (0 - x25))] 277 fun h26 =>
 (App Pz 148 148 (vS out_11) (.slice (some (aS h21 0)) 2 2) h26 fun s27 h28 =>
 (∃ m29, m29 < m10 /\ I8 s27 (IntKind.wrap .i64 (x_12 + 1)) h28 m29)))))))))))))
 ((∃ x30, rS h13 (aS h 3) x30 /\
 (App Pz 148 148 (vS out_11) (vS x30) h13 fun s31 h32 =>
 (∃ x33, rS h32 (aS h (3 + 1)) x33 /\
 (QSI s31 0 h32 fun I34 out_37 x_38 h39 m36 => (
 (sB (decide (x_38 < (x33.n : Int)))
 ((NB x33.a fun b40 o41 => (Ib x_38 x33.n /\
 (∃ (x42 x43 : Int), atC h39 ⟨b40, o41 + Int.toNat x_38 * 2, none⟩ [vI x42, vI x43] /\
 (Wn h39 [vI 0, vI 0] 94 fun h44 =>
 (Wp h44 (aS h39 0) 2 [vI x42, vI x43] fun h45 =>
 (Ib 0 2 /\
 (∃ x46, rI h45 (aS h39 (0 + Int.toNat 0 * 1)) x46 /\
 (Ib 1 2 /\
 (∃ x47, rI h45 (aS h39 (0 + Int.toNat 1 * 1)) x47 /\
 (Ib 1 2 /\
 (∃ x48, rI h45 (aS h39 (0 + Int.toNat 1 * 1)) x48 /\
 (Ib 0 2 /\
 (∃ x49, rI h45 (aS h39 (0 + Int.toNat 0 * 1)) x49 /\
 (Wn h45 [vI x46, vI x47, vI 0, vI x48, vI x49, vI 0] 277 fun h50 =>
 (App Pz 148 148 (vS out_37) (.slice (some (aS h45 0)) 2 2) h50 fun s51 h52 =>
 (∃ m53, m53 < m36 /\ I34 s51 (IntKind.wrap .i64 (x_38 + 1)) h52 m53)))))))))))))))))
 (R (vS out_37) h39)))))))))))))
theorem vc207 (p0_1 : ByteArray) (p0_2 : Sl) (p0_3 : Int) (p0_4 p0_5 : Sl) (h : Heap) (R : Value -> Heap -> Prop) (H : W207 p0_1 p0_2 p0_3 p0_4 p0_5 h R) : Fn Pz 207 #[.agg ⟨(L8 p0_1 p0_2 p0_3 p0_4 p0_5)⟩] h R := fnI (A := (.s .z (.s .z (.s (.s .z (.b (.l [(3, .one (.slice)), (11, .one (.int .i64))] .z))) (.s .z (.s (.s .z (.b (.l [(3, .one (.slice)), (46, .one (.int .i64))] .z))) .z)))))) (by kernel_rfl) H

def W169 (p0 : Sl) (p1 : Int) (h : Heap) (R : Value -> Heap -> Prop) : Prop :=
 (sB (decide (p1 < 0))
 (R (.tuple ⟨[.slice none 0 0, vI 1]⟩) h)
 ((sB (decide (p1 >= (p0.n : Int)))
 (R (.tuple ⟨[.slice none 0 0, vI 1]⟩) h)
 ((Fn Pz 206 #[vS p0] h
 (fun v1 h3 => ∃ x2, iB v1 x2 /\
 (sB (!x2)
 (R (.tuple ⟨[.slice none 0 0, vI 1]⟩) h3)
 ((NB p0.a fun b4 o5 => (Ib p1 p0.n /\
 (∃ x6 x7 x8 x9 x10, aL8 h3 ⟨b4, o5 + Int.toNat p1 * 5, none⟩ x6 x7 x8 x9 x10 /\
 (Fn Pz 207 #[.agg ⟨(L8 x6 x7 x8 x9 x10)⟩] h3
 (fun v11 h13 => ∃ x12, iS v11 x12 /\
 R (.tuple ⟨[vS x12, vI 0]⟩) h13)))))))))))))
theorem vc169 (p0 : Sl) (p1 : Int) (h : Heap) (R : Value -> Heap -> Prop) (H : W169 p0 p1 h R) : Fn Pz 169 #[vS p0, vI p1] h R := fnI (A := .z) (by kernel_rfl) H

end Go.VC
end

section
/- Contracts: names, words, paths. -/
namespace Go.VC
open Go.Proofs Go.LexS

theorem letter221 (b : UInt8) (h : Heap) : Fn Pz 232 #[.int .u8 b.toNat] h fun v h' => v = .bool (lt b) /\ h' = h := by
 apply vc232; unfold W232
 unfold lt isLetter
 generalize (b.toNat : Int) = n
 repeat' first
  | refine sBi (fun _ => ?_) (fun _ => ?_)
 all_goals
  refine ⟨?_, rfl⟩
  congr 1
  rw [Bool.eq_iff_iff]
  simp only [Bool.or_eq_true, Yt, decide_eq_true_eq, Bool.false_eq_true, true_iff, false_iff]
  omega
theorem digit253 (b : UInt8) (h : Heap) : Fn Pz 258 #[.int .u8 b.toNat] h fun v h' => v = .bool (dg b) /\ h' = h := by
 apply vc258; unfold W258
 unfold dg isDigit
 refine sBi (fun c => ⟨?_, rfl⟩) (fun c => ⟨?_, rfl⟩)
 ·
  rw [decide_eq_true (p := (48 : Int) <= b.toNat) c, Bool.true_and]
 ·
  rw [decide_eq_false (p := (48 : Int) <= b.toNat) c, Bool.false_and]
theorem inner222 (b : UInt8) (h : Heap) : Fn Pz 233 #[.int .u8 b.toNat] h fun v h' => v = .bool (inn b) /\ h' = h := by
 apply vc233; unfold W233
 refine (letter221 b h).mono ?_
 rintro _ h3 ⟨rfl, rfl⟩
 refine ⟨_, rfl, sB_intro (fun c => ?_) (fun c => ?_)⟩
 ·
  exact ⟨by rw [show inn b = (lt b || dg b || ((b.toNat : Int) == 95)) from rfl, c]; rfl, rfl⟩
 ·
  refine (digit253 b _).mono ?_
  rintro _ h6 ⟨rfl, rfl⟩
  refine ⟨_, rfl, sB_intro (fun d => ?_) (fun d => ?_)⟩
  ·
   exact ⟨by rw [show inn b = (lt b || dg b || ((b.toNat : Int) == 95)) from rfl, c, d]; rfl, rfl⟩
  ·
   exact ⟨by rw [show inn b = (lt b || dg b || ((b.toNat : Int) == 95)) from rfl, c, d]; rfl, rfl⟩
theorem isname189 (s : ByteArray) (h : Heap) : Fn Pz 204 #[.string s] h fun v h' => v = .bool (isName s.data.toList) /\ h' = h := by
 apply vc204; unfold W204
 have hsz := size_len s
 rw [strEq]
 generalize hL : s.data.toList = L at *
 refine sB_intro (fun he => ?_) (fun he => ?_)
 ·
  have : L = [] := of_decide_eq_true he
  subst this
  exact ⟨rfl, rfl⟩
 ·
  have hne : L ≠ [] := of_decide_eq_false he
  have hpos : 0 < L.length := List.length_pos_iff.2 hne
  obtain ⟨b, hb, hby⟩ := byte_get (s := s) (i := 0) (by omega)
  rw [hL] at hb
  have hcons : L = b :: L.drop 1 := by have := drop_cons hb; rwa [List.drop_zero] at this
  have hdef : isName L = (decide (L.length <= 16) && lt b && L.all inn) := by
   conv => lhs; rw [hcons]
   rw [isName, <- hcons]
  rw [hdef]
  refine sB_intro (fun hgt => ?_) (fun hgt => ?_)
  ·
   refine ⟨?_, rfl⟩
   rw [decide_eq_false (by have := of_decide_eq_true hgt; omega)]; rfl
  ·
   have h16 : L.length <= 16 := by have := of_decide_eq_false hgt; omega
   rw [decide_eq_true h16]
   refine ⟨⟨by omega, by omega⟩, ?_⟩
   rw [show Int.toNat 0 = 0 from rfl, hby]
   refine (letter221 _ _).mono ?_
   rintro v h3 ⟨rfl, rfl⟩
   refine ⟨_, rfl, sB_intro (fun hlet => ?_) (fun hlet => ?_)⟩
   ·
    refine ⟨?_, rfl⟩
    rw [show lt b = false from by rw [Bool.not_eq_true'] at hlet; exact hlet]; rfl
   ·
    rw [show lt b = true from by rw [Bool.not_eq_false'] at hlet; exact hlet]
    refine up_loop (n := s.size) (fun i h' => h' = h3 /\ ∀ (j : Nat) (b : UInt8), j < i -> L[j]? = some b -> (!inn b) = false) ⟨rfl, fun j b hj => by omega⟩ ?_
    rintro - i h8 hi ⟨rfl, hd⟩
    refine sB_intro (fun hlt => ?_) (fun hge => ?_)
    ·
     have hlt' := lt_t hlt
     obtain ⟨y, hy, hby2⟩ := byte_get hlt'
     rw [hL] at hy
     refine ⟨⟨by omega, by omega⟩, ?_⟩
     rw [show Int.toNat (i : Int) = i from rfl, hby2]
     refine (inner222 _ _).mono ?_
     rintro v h11 ⟨rfl, rfl⟩
     refine ⟨_, rfl, sB_intro (fun hp => ?_) (fun hp => ?_)⟩
     ·
      refine ⟨?_, rfl⟩
      have : L.all inn = false := by
       rw [<- Bool.not_eq_true, all_split]
       intro hh
       have := hh y i hy
       rw [Bool.not_eq_true'] at hp
       rw [show inn y = false from hp] at this; cases this
      rw [this]; rfl
     ·
      exact Up.next hlt' (by omega) ⟨rfl, scan_next (p := fun b => !inn b) hy hp hd⟩
    ·
     have hge' := lt_f hge
     refine ⟨?_, rfl⟩
     rw [(all_split inn L).2 fun b j hb => by simpa using hd j b (by have := (Ya.1 hb).1; omega) hb]; rfl
theorem index190 (L : List Nm) (x : ByteArray) (s : Sl) (h : Heap) (hr : RL h 1 s nmC L) :
  Fn Pz 205 #[.slice s.a s.n s.c, .string x] h fun v h' => (∃ k : Int, v = .int .i64 k /\ decide (k >= 0) = decide (x.data.toList ∈ L)) /\ h' = h := by
 apply vc205; unfold W205
 have hn := hr.ln
 have hm := hr.sm
 refine up_loop (n := s.n) (fun i h' => h' = h /\ ∀ (j : Nat) (y : Nm), j < i -> L[j]? = some y -> decide (x.data.toList = y) = false) ⟨rfl, fun j y hj => by omega⟩ ?_
 rintro - i h5 hi ⟨rfl, hd⟩
 refine sB_intro (fun l => ?_) (fun l => ?_)
 ·
  replace l := lt_t l
  refine hr.rw.nbI (by omega) (by omega) fun b o d g t => ?_
  replace g : L[i]? = some d := g
  refine ⟨_, t.hd, ?_⟩
  rw [strEq, bs_list]
  refine sB_intro (fun he => ?_) (fun hne => ?_)
  ·
   have := of_decide_eq_true he
   exact ⟨⟨_, rfl, by rw [decide_eq_true (show (i : Int) >= 0 by omega), decide_eq_true (by rw [this]; exact Yb g)]⟩, rfl⟩
  ·
   exact Up.next l (by omega) ⟨rfl, scan_next (p := fun y => decide (x.data.toList = y)) g hne hd⟩
 ·
  replace l := lt_f l
  refine ⟨⟨_, rfl, ?_⟩, rfl⟩
  rw [decide_eq_false (show ¬ ((-1 : Int) >= 0) by omega), decide_eq_false]
  intro hm
  obtain ⟨j, hj⟩ := Yf.1 hm
  exact of_decide_eq_false (hd j _ (by have := (Ya.1 hj).1; omega) hj) rfl
theorem has133 (L : List Nm) (x : ByteArray) (s : Sl) (h : Heap) (hr : RL h 1 s nmC L) :
  Fn Pz 168 #[.slice s.a s.n s.c, .string x] h fun v h' => v = .bool (decide (x.data.toList ∈ L)) /\ h' = h := by
 apply vc168; unfold W168
 refine (index190 L x s h hr).mono ?_
 rintro v h3 ⟨⟨k, rfl, hk⟩, rfl⟩
 exact ⟨_, rfl, by rw [hk], rfl⟩
theorem own_rl {α : Type} {h : Heap} {b : Nat} {e : TypeId} {k : Nat} {cs : α -> List Value} {L : List α} {xs : List Value} (hx : xs = (L.map cs).flatten) (ho : Own h b xs e) (hk : ∀ x, (cs x).length = k) (hl : L.length <= 1048576) {n c : Nat} (hn : n = L.length) (hc : n <= c) : RL h k ⟨some ⟨b, 0, none⟩, n, c⟩ cs L := by
 subst hx
 refine ⟨⟨by rw [Yc]; exact hn, fun _ => ⟨b, 0, rfl, fun i row hi j v hj => ?_⟩⟩, hc, fun e => by (cases e), hl⟩
 have hr : ∀ r ∈ L.map cs, r.length = k := fun r hr => by obtain ⟨x, _, rfl⟩ := Yp.1 hr; exact hk x
 have hjl := (Ya.1 hj).1
 rw [hr row (Yb hi)] at hjl
 rw [addk_at, Nat.zero_add, ho.hc, getElem?_flatten _ i j row hr hi hjl]; exact hj
theorem isword132 (s : ByteArray) (h : Heap) : Fn Pz 167 #[.string s] h fun v h' => v = .bool (isWord s.data.toList) /\ Ext h h' := by
 apply vc167; unfold W167
 refine newput (vs := (keywords.map nmC).flatten) rfl fun h2 E o => ?_
 refine (isname189 s h2).mono ?_
 rintro _ h5 ⟨rfl, rfl⟩
 refine ⟨_, rfl, sB_intro (fun c => ?_) (fun c => ?_)⟩
 ·
  refine ⟨by decide, ?_⟩
  refine (has133 keywords s ⟨subA (some ⟨h.size, 0, none⟩) (Int.toNat 0) 28 1, Int.toNat (28 : Nat) - Int.toNat 0, 28 - Int.toNat 0⟩ h5 (own_rl rfl o (fun _ => rfl) (by decide) rfl (by decide))).mono ?_
  rintro _ h8 ⟨rfl, rfl⟩
  exact ⟨_, rfl, by rw [show isWord s.data.toList = (isName s.data.toList && !decide (s.data.toList ∈ keywords)) from rfl, c]; rfl, E⟩
 ·
  exact ⟨by rw [show isWord s.data.toList = (isName s.data.toList && !decide (s.data.toList ∈ keywords)) from rfl, c]; rfl, E⟩
end Go.VC
end
