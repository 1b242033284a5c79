/- The plain law of order: events in another order have the same windows. -/
import Derived.Test.YtjkflblbcodnoaaWholeBare
set_option linter.unusedVariables false
set_option linter.unusedSimpArgs false
namespace Go.Proofs.Ytjkflblbcodnoaa
open Go.RowKit Go.Maps
theorem foldl_perm {α β : Type} {f : β → α → β} {I : β → Prop} (hf : ∀ b a, I b → I (f b a)) (hc : ∀ b x y, I b → f (f b x) y = f (f b y) x) {l m : List α} (h : l.Perm m) : ∀ b, I b → l.foldl f b = m.foldl f b := by
  induction h with
  | nil => intro b _; rfl
  | cons x _ ih => intro b hb; exact ih (f b x) (hf b x hb)
  | swap x y l => intro b hb; show l.foldl f (f (f b y) x) = l.foldl f (f (f b x) y); rw [hc b y x hb]
  | trans _ _ ih1 ih2 => intro b hb; rw [ih1 b hb, ih2 b hb]
theorem lookL_ins {L : PL} (hs : SortedL L) (p q : Pl) (x : Pn) : lookL (insL L p x) q = if q = p then some x else lookL L q := by
  have hs' := insL_sorted hs p x
  by_cases h : q = p
  · rw [if_pos h, lookL_some hs']
    exact (mem_insL hs q x).2 (.inl ⟨h, rfl⟩)
  · rw [if_neg h]
    cases hl : lookL L q with
    | none =>
      rw [lookL_none hs']
      intro y hy
      rcases (mem_insL hs q y).1 hy with ⟨e, _⟩ | ⟨_, hm⟩
      · exact h e
      · exact (lookL_none hs).1 hl y hm
    | some y =>
      rw [lookL_some hs']
      exact (mem_insL hs q y).2 (.inr ⟨h, (lookL_some hs).1 hl⟩)
/-- An event's step at a window's place. -/
def stepO (kd : Int) (o : Option Pn) (e : Ev) : Option Pn := some (stepPn (o.getD ⟨0, kd, 0, 0⟩) e.value e.label)
def touch (sz sl : Int) (p : Pl) (e : Ev) : Bool := decide (e.key = p.1.2 ∧ p.1.1 ∈ startsOf e.time sz sl)
theorem puts_look {kd : Int} (e : Ev) (he : e.wf) (p : Pl) : ∀ (ss : List Int) (L : PL), (∀ s ∈ ss, (Lit.int .i64 s).wf = true) → ss.Nodup → SortedL L →
    lookL (ss.foldl (fun L s => putS kd L e s) L) p = if e.key = p.1.2 ∧ p.1.1 ∈ ss then stepO kd (lookL L p) e else lookL L p
  | [], L, _, _, _ => by simp
  | s :: ss, L, hw, hn, hs => by
    have hn' := List.nodup_cons.1 hn
    have hws := hw s (by simp)
    have h1 : lookL (putS kd L e s) p = if p = plOf s e.key then stepO kd (lookL L p) e else lookL L p := by
      unfold putS
      rw [lookL_ins hs]
      by_cases h : p = plOf s e.key
      · subst h; rw [if_pos rfl, if_pos rfl]; rfl
      · rw [if_neg h, if_neg h]
    have hp : p = plOf s e.key ↔ e.key = p.1.2 ∧ p.1.1 = s := by
      constructor
      · rintro rfl
        rw [plOf_1 hws he.2.1]
        exact ⟨rfl, rfl⟩
      · rintro ⟨h1, h2⟩
        refine Subtype.ext ?_
        rw [plOf_1 hws he.2.1]
        exact Prod.ext h2 h1.symm
    rw [List.foldl_cons, puts_look e he p ss _ (fun t h => hw t (by simp [h])) hn'.2 (putS_sorted hs e s), h1]
    by_cases hk : e.key = p.1.2
    · by_cases h2 : p.1.1 = s
      · have h3 : p.1.1 ∉ ss := h2 ▸ hn'.1
        rw [if_neg (fun h => h3 h.2), if_pos (hp.2 ⟨hk, h2⟩), if_pos ⟨hk, by simp [h2]⟩]
      · rw [if_neg (fun h => h2 (hp.1 h).2)]
        by_cases h3 : p.1.1 ∈ ss
        · rw [if_pos ⟨hk, h3⟩, if_pos ⟨hk, by simp [h3]⟩]
        · rw [if_neg (fun h => h3 h.2), if_neg (fun h => by rcases List.mem_cons.1 h.2 with h | h; exact h2 h; exact h3 h)]
    · rw [if_neg (fun h => hk h.1), if_neg (fun h => hk (hp.1 h).1), if_neg (fun h => hk h.1)]
theorem winds_lt {last time size slide : Int} (hsl : 1 ≤ slide) : ∀ (n : Nat), (winds last time size slide n).Pairwise (· < ·) ∧ ∀ s ∈ winds last time size slide n, last - n * slide < s
  | 0 => by simp [winds]
  | n + 1 => by
    obtain ⟨h1, h2⟩ := winds_lt hsl n (last := last) (time := time) (size := size)
    have e : ((n + 1 : Nat) : Int) * slide = n * slide + slide := by rw [Int.natCast_add, Int.add_mul]; simp
    unfold winds
    constructor
    · refine List.pairwise_append.2 ⟨by split <;> simp, h1, fun a ha b hb => ?_⟩
      split at ha
      · simp at ha
        subst ha
        exact h2 b hb
      · simp at ha
    · intro s hs
      rcases List.mem_append.1 hs with h | h
      · split at h
        · simp at h
          subst h
          omega
        · simp at h
      · have := h2 s h
        omega
theorem starts_nodup (t sz sl : Int) : (startsOf t sz sl).Nodup := by
  unfold startsOf
  split
  · rename_i h
    exact ((winds_lt h.1.1 _).1).imp (fun h => by omega)
  · simp
theorem putE_look {kd sz sl : Int} {L : PL} (hs : SortedL L) (e : Ev) (he : e.wf) (p : Pl) : lookL (putE kd sz sl L e) p = if touch sz sl p e then stepO kd (lookL L p) e else lookL L p := by
  unfold putE
  rw [puts_look e he p _ L (fun s h => starts_wf h) (starts_nodup _ _ _) hs]
  unfold touch
  by_cases h : e.key = p.1.2 ∧ p.1.1 ∈ startsOf e.time sz sl
  · rw [if_pos h, if_pos (decide_eq_true h)]
  · rw [if_neg h, if_neg (by simpa using h)]
theorem putL_look {kd sz sl : Int} (p : Pl) : ∀ (es : List Ev) (L : PL), (∀ e ∈ es, e.wf) → SortedL L → lookL (putL kd sz sl L es) p = (es.filter (touch sz sl p)).foldl (stepO kd) (lookL L p)
  | [], L, _, _ => rfl
  | e :: es, L, hw, hs => by
    show lookL (putL kd sz sl (putE kd sz sl L e) es) p = _
    rw [putL_look p es _ (fun e h => hw e (by simp [h])) (putE_srt hs e), putE_look hs e (hw e (by simp)), List.filter_cons]
    by_cases h : touch sz sl p e = true
    · rw [if_pos h, if_pos h]; rfl
    · rw [if_neg h, if_neg h]
theorem putL_sorted {kd sz sl : Int} : ∀ (es : List Ev) (L : PL), SortedL L → SortedL (putL kd sz sl L es)
  | [], _, hs => hs
  | e :: es, L, hs => putL_sorted es _ (putE_srt hs e)
theorem sortedL_ext {L M : PL} (hL : SortedL L) (hM : SortedL M) (h : ∀ p, lookL L p = lookL M p) : L = M := by
  have hk : L.map (·.1) = M.map (·.1) := by
    refine sorted_ext (List.pairwise_map.2 hL) (List.pairwise_map.2 hM) fun p => ?_
    simp only [List.mem_map]
    constructor
    · rintro ⟨⟨q, x⟩, hx, rfl⟩
      exact ⟨(q, x), (lookL_some hM).1 ((h q) ▸ (lookL_some hL).2 hx), rfl⟩
    · rintro ⟨⟨q, x⟩, hx, rfl⟩
      exact ⟨(q, x), (lookL_some hL).1 ((h q).symm ▸ (lookL_some hM).2 hx), rfl⟩
  have hl : L.length = M.length := by simpa using congrArg List.length hk
  refine List.ext_getElem hl fun i h1 h2 => ?_
  have hp : L[i].1 = M[i].1 := by
    have := List.getElem_of_eq hk (i := i) (by simpa using h1)
    simpa using this
  have hx : some L[i].2 = some M[i].2 := by
    rw [← (lookL_some hL (p := L[i].1) (x := L[i].2)).2 (List.getElem_mem h1), ← (lookL_some hM (p := M[i].1) (x := M[i].2)).2 (List.getElem_mem h2), hp, h]
  exact Prod.ext hp (Option.some.inj hx)
theorem or_swap (l a b : Int) : bits .or .u64 (bits .or .u64 l a) b = bits .or .u64 (bits .or .u64 l b) a := by
  simp only [bits_or64, bv_toNat]
  rw [BitVec.or_assoc, BitVec.or_comm (bv a) (bv b), ← BitVec.or_assoc]
theorem wrap_swap (v a b : Int) : wrap64 (wrap64 (v + a) + b) = wrap64 (wrap64 (v + b) + a) := by
  unfold wrap64
  omega
theorem take_swap (k c v a b : Int) (hc : 0 ≤ c) : takeV k (c + 1) (takeV k c v a 1) b 1 = takeV k (c + 1) (takeV k c v b 1) a 1 := by
  have h1 : ¬ c + 1 = 0 := by omega
  unfold takeV
  by_cases k1 : k = 1
  · simp [k1]
  · by_cases k2 : k = 2
    · simp only [k1, k2, if_false, if_true]
      exact wrap_swap v a b
    · by_cases k3 : k = 3
      · simp only [k1, k2, k3, if_false, h1, true_and, false_or]
        simp
        repeat' split
        all_goals omega
      · by_cases k4 : k = 4
        · simp only [k1, k2, k3, k4, if_false, h1, true_and, false_or]
          simp
          repeat' split
          all_goals omega
        · simp [k1, k2, k3, k4]
theorem step_swap {kd : Int} (o : Option Pn) (x y : Ev) (h : 0 ≤ (o.getD ⟨0, kd, 0, 0⟩).c) : stepO kd (stepO kd o x) y = stepO kd (stepO kd o y) x := by
  unfold stepO
  simp only [Option.getD_some]
  unfold stepPn
  simp only
  rw [take_swap _ _ _ _ _ h, or_swap]
theorem putL_perm {kd sz sl : Int} {es fs : List Ev} (h : es.Perm fs) (hw : ∀ e ∈ es, e.wf) : putL kd sz sl [] es = putL kd sz sl [] fs := by
  refine sortedL_ext (putL_sorted es [] List.Pairwise.nil) (putL_sorted fs [] List.Pairwise.nil) fun p => ?_
  rw [putL_look p es [] hw List.Pairwise.nil, putL_look p fs [] (fun e he => hw e (h.symm.subset he)) List.Pairwise.nil]
  exact foldl_perm (I := fun o => 0 ≤ (o.getD ⟨0, kd, 0, 0⟩).c) (fun o e ho => by show 0 ≤ (o.getD ⟨0, kd, 0, 0⟩).c + 1; omega) (fun o x y ho => step_swap o x y ho) (h.filter _) none (by show (0 : Int) ≤ 0; omega)
/-- Events alone, none below the mark: no rows; all are put. -/
theorem events_all : ∀ (es : List Inp) (r : Rn), (∀ i ∈ es, i.mark = false ∧ 0 ≤ i.ev.time ∧ i.ev.time ≤ 160) → r.c.mark = 0 → r.p.ops = [] → (afterR r es).L = putL r.p.agg r.p.size r.p.slide r.L (es.map (·.ev)) ∧ (afterR r es).c.mark = 0 ∧ rowsR r es = []
  | [], r, _, hm, _ => ⟨rfl, hm, rfl⟩
  | i :: es, r, h, hm, ho => by
    obtain ⟨h1, h2, h3⟩ := h i (by simp)
    obtain ⟨im, ie⟩ := i
    dsimp only at h1 h2 h3
    subst h1
    have hB : onB r.c ie.time = true := by unfold onB; simp; omega
    have e : (takeR r ⟨false, ie⟩).1 = ⟨onC r.c ie.time, r.p, putE r.p.agg r.p.size r.p.slide r.L ie⟩ := by
      show evR r ie = _
      unfold evR
      rw [hB, ho, runO_nil]
      simp
    have ih := events_all es (takeR r ⟨false, ie⟩).1 (fun j hj => h j (by simp [hj])) (by rw [e]; dsimp only; rw [onC_mark]; exact hm) (by rw [e]; exact ho)
    rw [e] at ih
    have ea : afterR r (⟨false, ie⟩ :: es) = afterR ⟨onC r.c ie.time, r.p, putE r.p.agg r.p.size r.p.slide r.L ie⟩ es := by rw [← e]; rfl
    refine ⟨by rw [ea, ih.1]; rfl, by rw [ea]; exact ih.2.1, ?_⟩
    rw [rowsR, e, ih.2.2]
    rfl
theorem whole_events {p : Pp} (hp : p.ops = []) (es : List Inp) (h : ∀ i ∈ es, i.mark = false ∧ 0 ≤ i.ev.time ∧ i.ev.time ≤ 160) : wholeRows p (es ++ [endI]) = rowsL (doneL p.size 1000 (putL p.agg p.size p.slide [] (es.map (·.ev)))) := by
  obtain ⟨h1, h2, h3⟩ := events_all es (newR p) h rfl hp
  unfold wholeRows
  rw [rowsR_append, h3, List.nil_append, rowsR, rowsR, List.append_nil]
  have ba : advB (afterR (newR p) es).c (⟨1000, 0, 0, 0⟩ : Ev).time = true := by unfold advB; simp; omega
  unfold endI
  rw [takeR_mark ba]
  dsimp only
  rw [h1, afterR_p]
  rfl
theorem whole_perm {p : Pp} (hp : p.ops = []) {es fs : List Inp} (hpm : es.Perm fs) (hw : ∀ i ∈ es, i.ev.wf) (h : ∀ i ∈ es, i.mark = false ∧ 0 ≤ i.ev.time ∧ i.ev.time ≤ 160) : wholeRows p (es ++ [endI]) = wholeRows p (fs ++ [endI]) := by
  rw [whole_events hp es h, whole_events hp fs fun i hi => h i (hpm.symm.subset hi)]
  rw [putL_perm (hpm.map (·.ev)) fun e he => by
    obtain ⟨i, hi, rfl⟩ := List.mem_map.1 he
    exact hw i hi]
theorem whole_more {p : Pp} (hp : p.ops = []) {es : List Inp} {one : Int} (hw : ∀ i ∈ es, i.ev.wf) (h : ∀ i ∈ es, i.ev.key ≠ one) (ho : (Lit.int .i64 one).wf = true) : (wholeRows p (es ++ [⟨false, ⟨5, one, 1, 1⟩⟩, endI])).filter (fun x => !(x.key == one)) = wholeRows p (es ++ [endI]) := by
  have hpt := Part.all (l := es ++ [⟨false, ⟨5, one, 1, 1⟩⟩, endI]) (Part.new (fun x => !(x == one)) hp) (by
    intro i hi
    rcases List.mem_append.1 hi with hi | hi
    · exact hw i hi
    · simp at hi
      rcases hi with rfl | rfl
      · exact ⟨show (Lit.int .i64 5).wf = true by decide, ho, show (Lit.int .i64 1).wf = true by decide, show (Lit.int .u64 1).wf = true by decide⟩
      · exact mark1000_wf)
  have hf : (es ++ [⟨false, ⟨5, one, 1, 1⟩⟩, endI]).filter (fun i : Inp => i.mark || !(i.ev.key == one)) = es ++ [endI] := by
    rw [List.filter_append]
    congr 1
    · refine List.filter_eq_self.2 fun i hi => ?_
      have := h i hi
      simp [this]
    · simp [endI]
  have h2 := hpt.2
  rw [hf] at h2
  exact h2.symm
end Go.Proofs.Ytjkflblbcodnoaa
