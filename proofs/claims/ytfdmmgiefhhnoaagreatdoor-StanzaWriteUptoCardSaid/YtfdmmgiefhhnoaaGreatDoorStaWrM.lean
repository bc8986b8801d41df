import Derived.Test.YtfdmmgiefhhnoaaGreatDoorStaBackM
set_option linter.unusedSimpArgs false
set_option linter.unusedVariables false
namespace Go.Proofs.YtfdmmgiefhhnoaaGreatDoor
open Go Go.AM Go.RowKit
def dlv (kvs : List At) : List At := kvs.filter fun a => !decide (a.2 = ⟨#[]⟩)
theorem withL_dl (kvs : List At) (k v : BA) : withL (dlv kvs) k v = dlv (kvs ++ [(k, v)]) := by
  unfold withL dlv
  rw [List.filter_append]
  by_cases h : v = ⟨#[]⟩ <;> simp [h]
theorem dl1 (a x : BA) : withL [] a x = dlv [(a, x)] := withL_dl [] a x
theorem dl2 (a x b y : BA) : withL (withL [] a x) b y = dlv [(a, x), (b, y)] := by rw [dl1]; exact withL_dl [(a, x)] b y
theorem dl3 (a x b y c z : BA) : withL (withL (withL [] a x) b y) c z = dlv [(a, x), (b, y), (c, z)] := by rw [dl2]; exact withL_dl [(a, x), (b, y)] c z
theorem dl4 (a x b y c z d u : BA) : withL (withL (withL (withL [] a x) b y) c z) d u = dlv [(a, x), (b, y), (c, z), (d, u)] := by rw [dl3]; exact withL_dl [(a, x), (b, y), (c, z)] d u
theorem dl_nd {kvs : List At} (hn : (kvs.map Prod.fst).Nodup) : ((dlv kvs).map Prod.fst).Nodup := hn.sublist ((List.filter_sublist).map _)
theorem dl_mem {kvs : List At} {a : At} : a ∈ dlv kvs ↔ a ∈ kvs ∧ a.2 ≠ ⟨#[]⟩ := by
  unfold dlv; rw [List.mem_filter]; simp
theorem countP_flt (p q : At → Bool) : ∀ l : List At, ((l.filter q).countP p = l.countP p) ↔ ∀ a ∈ l, p a = true → q a = true
  | [] => by simp
  | x :: l => by
    have ih := countP_flt p q l
    have hle : (l.filter q).countP p ≤ l.countP p := (List.filter_sublist).countP_le
    cases hp : p x <;> cases hq : q x <;> simp [List.filter_cons, List.countP_cons, hp, hq, ih]
    omega
theorem fits_dl {must may : Tst} {kvs : List At} (hn : (kvs.map Prod.fst).Nodup) (hc : kvs.countP (inM must) = must.length) :
    fitsM must may (dlv kvs) = true ↔ (∀ a ∈ kvs, a.2 = ⟨#[]⟩ ∨ atOk must may a = true) ∧ ∀ a ∈ kvs, inM must a = true → a.2 ≠ ⟨#[]⟩ := by
  rw [fits_iff]
  have e := countP_flt (inM must) (fun a => !decide (a.2 = ⟨#[]⟩)) kvs
  constructor
  · rintro ⟨h1, _, h3⟩
    refine ⟨fun a ha => ?_, fun a ha hm => ?_⟩
    · by_cases hv : a.2 = ⟨#[]⟩
      · exact .inl hv
      · exact .inr (h1 a (dl_mem.2 ⟨ha, hv⟩))
    · have := e.1 (h3.trans hc.symm) a ha hm
      simpa using this
  · rintro ⟨h1, h2⟩
    refine ⟨fun a ha => ?_, dl_nd hn, ?_⟩
    · obtain ⟨g1, g2⟩ := dl_mem.1 ha
      exact (h1 a g1).resolve_left g2
    · exact (e.2 fun a ha hm => by simpa using h2 a ha hm).trans hc
theorem value_dl {kvs : List At} {k v : BA} (hn : (kvs.map Prod.fst).Nodup) (h : (k, v) ∈ kvs) : valueM (dlv kvs) k = v := by
  by_cases hv : v = ⟨#[]⟩
  · refine Classical.byContradiction fun hne => ?_
    have hm := value_mem (ats := dlv kvs) (k := k) fun e => hne (e.trans hv.symm)
    exact hne (congrArg Prod.snd (uniq_at hn _ (dl_mem.1 hm).1 _ h rfl))
  · exact value_of_mem (dl_nd hn) (a := (k, v)) (dl_mem.2 ⟨h, hv⟩)
theorem value_none {kvs : List At} {k : BA} (h : k ∉ kvs.map Prod.fst) : valueM (dlv kvs) k = ⟨#[]⟩ := by
  refine Classical.byContradiction fun hne => ?_
  exact h (List.mem_map_of_mem (f := Prod.fst) (dl_mem.1 (value_mem hne)).1)
theorem dig_one : ∀ d : Fin 10, digB (UInt8.ofNat (48 + d.val)) = d.val := by decide
theorem readGo_snoc : ∀ (l : List UInt8) (n m : Nat) (c : UInt8), readGo l n = some m → digB c ≤ 9 → 10 * m + digB c ≤ 4294967295 → readGo (l ++ [c]) n = some (10 * m + digB c)
  | [], n, m, c, h, h1, h2 => by
    simp only [readGo, Option.some.injEq] at h
    subst h
    simp only [List.nil_append, readGo]
    rw [if_neg (by omega)]
  | x :: l, n, m, c, h, h1, h2 => by
    simp only [readGo] at h
    split at h
    · cases h
    · rename_i hg
      simp only [List.cons_append, readGo]
      rw [if_neg hg]
      exact readGo_snoc l _ m c h h1 h2
theorem readGo_dec (n : Nat) (h : n ≤ 4294967295) : readGo (Lib.decDigits n) 0 = some n := by
  induction n using Nat.strongRecOn with
  | ind n ih =>
    rw [Lib.decDigits]
    split
    · rename_i h10
      have e := dig_one ⟨n, h10⟩
      simp only at e
      simp only [readGo, e]
      rw [if_neg (by omega)]
      simp
    · have e := dig_one ⟨n % 10, by omega⟩
      simp only at e
      have := readGo_snoc (Lib.decDigits (n / 10)) 0 (n / 10) (UInt8.ofNat (48 + n % 10)) (ih (n / 10) (by omega) (by omega)) (by omega) (by omega)
      rw [e] at this
      rw [this]
      congr 1; omega
theorem readN_decS (n : Nat) (h : n ≤ 4294967295) : readN (decS n) = some n := by
  have e : (decS n).data.toList = Lib.decDigits n := by simp [decS]
  unfold readN
  rw [e, readGo_dec n h]
  simp
theorem num_decS (n : Nat) (h : n ≤ 4294967295) : numOf (decS n) = n := by unfold numOf; rw [readN_decS n h]; rfl
theorem cnt_decS (n : Nat) (h : n ≤ 4294967295) : cntB (decS n) = true := by unfold cntB; rw [readN_decS n h]; rfl
theorem num_iff (n : Nat) (h : n ≤ 4294967295) : numB (decS n) = true ↔ 1 ≤ n ∧ n ≤ 1000000 := by
  unfold numB; rw [readN_decS n h]; simp
theorem word_ne {s : BA} (h : wordB s = true) : s ≠ ⟨#[]⟩ := fun e => by subst e; revert h; decide
theorem user_ne {s : BA} (h : userB s = true) : s ≠ ⟨#[]⟩ := fun e => by subst e; revert h; decide
def verT (s : Sz) : BA := if s.ver > 0 then decS (IntKind.wrap .u32 s.ver).toNat else ⟨#[]⟩
theorem listedA_dl (s : Sz) : listedA s = dlv [(kVer, verT s)] := by
  unfold listedA verT
  split
  · exact dl1 _ _
  · simp [dlv]
theorem ver_iff (s : Sz) : ((verT s = ⟨#[]⟩ ∨ numB (verT s) = true) ∧ numOf (verT s) = s.ver) ↔ 0 ≤ s.ver ∧ s.ver ≤ 1000000 := by
  unfold verT
  split
  · rename_i h
    have hm : (IntKind.wrap .u32 s.ver).toNat ≤ 4294967295 := by rw [IntKind.wrap_u32]; omega
    rw [num_iff _ hm, num_decS _ hm]
    rw [IntKind.wrap_u32] at *
    constructor
    · rintro ⟨h1 | h1, h2⟩
      · exact absurd h1 (dec_ne _)
      · omega
    · intro h1
      exact ⟨.inr (by omega), by omega⟩
  · rename_i h
    rw [numOf_nil]
    constructor
    · rintro ⟨_, h2⟩; omega
    · intro h1; exact ⟨.inl rfl, by omega⟩
def itF (b r : Bool) (x : It) : Bool := userB x.c && (decide (x.n = ⟨#[]⟩) || wordB x.n) && (!r || b)
def itG (r : Bool) (x : It) : It := ⟨x.c, x.n, subM (subW x.s r), x.a⟩
def itOk (r : Bool) (x : It) : Bool := userB x.c && (decide (x.n = ⟨#[]⟩) || wordB x.n) && decide (0 ≤ x.s) && decide (x.s ≤ 3) && (!r || decide (x.s = 0))
def askT (a : Bool) : BA := if a then sSubscribe else ⟨#[]⟩
theorem itemE_dl (r : Bool) (x : It) : itemE r x = .mk sItem (dlv [(kJid, x.c), (kName, x.n), (kSub, subW x.s r), (kAsk, askT x.a)]) ⟨#[]⟩ [] := by
  rw [itemE_mk, ← dl4]
  cases x.a with
  | true => rfl
  | false => simp [askT, withL]
theorem sub_cases (z : Int) : subW z false = ⟨#[]⟩ ∧ andZ .i64 z 3 = 0 ∨ subW z false = kTo ∧ andZ .i64 z 3 = 1 ∨ subW z false = kFrom ∧ andZ .i64 z 3 = 2 ∨ subW z false = sBoth ∧ andZ .i64 z 3 = 3 := by
  unfold subW
  have h := and3 z
  generalize andZ .i64 z 3 = y at *
  have : y = 0 ∨ y = 1 ∨ y = 2 ∨ y = 3 := by omega
  rcases this with rfl | rfl | rfl | rfl
  · exact .inl ⟨rfl, rfl⟩
  · exact .inr (.inl ⟨rfl, rfl⟩)
  · exact .inr (.inr (.inl ⟨rfl, rfl⟩))
  · exact .inr (.inr (.inr ⟨rfl, rfl⟩))
theorem and_low : ∀ z : Fin 4, andZ .i64 (z.val : Int) 3 = z.val := by decide +kernel
theorem sub_eq (z : Int) : subM (subW z false) = z ↔ 0 ≤ z ∧ z ≤ 3 := by
  constructor
  · intro h
    rcases sub_cases z with ⟨e, _⟩ | ⟨e, _⟩ | ⟨e, _⟩ | ⟨e, _⟩ <;> rw [e] at h
    · have h : (0 : Int) = z := h
      omega
    · have h : (1 : Int) = z := h
      omega
    · have h : (2 : Int) = z := h
      omega
    · have h : (3 : Int) = z := h
      omega
  · rintro ⟨h1, h2⟩
    have e := and_low ⟨z.toNat, by omega⟩
    simp only [Int.toNat_of_nonneg h1] at e
    rcases sub_cases z with ⟨e1, e2⟩ | ⟨e1, e2⟩ | ⟨e1, e2⟩ | ⟨e1, e2⟩ <;> rw [e1] <;> rw [e] at e2 <;> rw [e2] <;> decide
theorem item_fits (b r : Bool) (x : It) : fitsM [(kJid, userB)] (shItem b) (dlv [(kJid, x.c), (kName, x.n), (kSub, subW x.s r), (kAsk, askT x.a)]) = itF b r x := by
  rw [Bool.eq_iff_iff]
  refine Iff.trans (fits_dl (show ([kJid, kName, kSub, kAsk] : List BA).Nodup by decide) rfl) ?_
  have hs : (subW x.s r = ⟨#[]⟩ ∨ statesB b (subW x.s r) = true) ↔ (!r || b) = true := by
    cases r with
    | true =>
      show (sRemove = ⟨#[]⟩ ∨ statesB b sRemove = true) ↔ (!true || b) = true
      cases b <;> decide
    | false =>
      refine ⟨fun _ => rfl, fun _ => ?_⟩
      rcases sub_cases x.s with ⟨e, _⟩ | ⟨e, _⟩ | ⟨e, _⟩ | ⟨e, _⟩ <;> rw [e] <;> cases b <;> first | exact .inl rfl | exact .inr (by decide)
  have ha : askT x.a = ⟨#[]⟩ ∨ oneB [sSubscribe] (askT x.a) = true := by cases x.a <;> first | exact .inl rfl | exact .inr (by decide)
  unfold itF
  simp only [Bool.and_eq_true, Bool.or_eq_true (decide _), decide_eq_true_eq]
  constructor
  · rintro ⟨h1, h2⟩
    have g1 := (h1 (kJid, x.c) (by simp)).resolve_left (h2 (kJid, x.c) (by simp) rfl)
    have g2 := h1 (kName, x.n) (by simp)
    have g3 := h1 (kSub, subW x.s r) (by simp)
    exact ⟨⟨g1, g2⟩, hs.1 g3⟩
  · rintro ⟨⟨g1, g2⟩, g3⟩
    refine ⟨fun a h => ?_, fun a h hm => ?_⟩
    · simp only [List.mem_cons, List.not_mem_nil, or_false] at h
      rcases h with rfl | rfl | rfl | rfl
      · exact .inr g1
      · exact g2
      · exact hs.2 g3
      · exact ha
    · simp only [List.mem_cons, List.not_mem_nil, or_false] at h
      rcases h with rfl | rfl | rfl | rfl
      · exact user_ne g1
      · have hm : false = true := hm
        cases hm
      · have hm : false = true := hm
        cases hm
      · have hm : false = true := hm
        cases hm
theorem item_shape (b r : Bool) (x : It) : itemM b (itemE r x) = if itF b r x = true then some (itG r x, r) else none := by
  have hn : ([kJid, kName, kSub, kAsk] : List BA).Nodup := by decide
  have v1 : valueM (dlv [(kJid, x.c), (kName, x.n), (kSub, subW x.s r), (kAsk, askT x.a)]) kJid = x.c := value_dl hn (by simp)
  have v2 : valueM (dlv [(kJid, x.c), (kName, x.n), (kSub, subW x.s r), (kAsk, askT x.a)]) kName = x.n := value_dl hn (by simp)
  have v3 : valueM (dlv [(kJid, x.c), (kName, x.n), (kSub, subW x.s r), (kAsk, askT x.a)]) kSub = subW x.s r := value_dl hn (by simp)
  have v4 : valueM (dlv [(kJid, x.c), (kName, x.n), (kSub, subW x.s r), (kAsk, askT x.a)]) kAsk = askT x.a := value_dl hn (by simp)
  rw [itemE_dl, itemM_eq, item_fits, v1, v2, v3, v4]
  have ea : (!decide (askT x.a = ⟨#[]⟩)) = x.a := by cases x.a <;> decide
  have er : decide (subW x.s r = sRemove) = r := by
    cases r with
    | true => exact decide_eq_true rfl
    | false => rcases sub_cases x.s with ⟨e, _⟩ | ⟨e, _⟩ | ⟨e, _⟩ | ⟨e, _⟩ <;> rw [e] <;> decide
  rw [ea, er]
  cases itF b r x <;> simp [itG]
theorem items_shape (b r : Bool) : ∀ xs : List It, itemsGo b (xs.map (itemE r)) = if xs.all (itF b r) = true then some (xs.map (itG r), r && !xs.isEmpty) else none
  | [] => by simp [itemsGo]
  | x :: l => by
    simp only [List.map_cons, itemsGo, item_shape, items_shape b r l, List.all_cons, Bool.and_eq_true]
    by_cases h1 : itF b r x = true
    · by_cases h2 : l.all (itF b r) = true
      · rw [if_pos h1, if_pos h2, if_pos ⟨h1, h2⟩]
        cases r <;> simp
      · rw [if_pos h1, if_neg h2, if_neg (fun h : itF b r x = true ∧ l.all (itF b r) = true => h2 h.2)]
    · rw [if_neg h1, if_neg (fun h : itF b r x = true ∧ l.all (itF b r) = true => h1 h.1)]
theorem itG_eq (r : Bool) (x : It) : itG r x = x ↔ if r = true then x.s = 0 else 0 ≤ x.s ∧ x.s ≤ 3 := by
  obtain ⟨c, n, s, a⟩ := x
  simp only [itG, It.mk.injEq, true_and, and_true]
  cases r with
  | true =>
    show (0 : Int) = s ↔ _
    simp [eq_comm]
  | false => simp [sub_eq]
theorem map_eq_self {α : Type} (f : α → α) : ∀ l : List α, l.map f = l ↔ ∀ x ∈ l, f x = x
  | [] => by simp
  | x :: l => by simp [map_eq_self f l]
theorem it_both (b r : Bool) (x : It) : (itF b r x = true ∧ itG r x = x) ↔ itOk r x = true ∧ (r = true → b = true) := by
  rw [itG_eq]
  simp only [itF, itOk, Bool.and_eq_true, decide_eq_true_eq]
  cases r with
  | true =>
    simp only [if_true, Bool.not_true, Bool.false_or, decide_eq_true_eq]
    constructor
    · rintro ⟨⟨h1, h2⟩, h3⟩; exact ⟨⟨⟨⟨h1, by omega⟩, by omega⟩, h3⟩, fun _ => h2⟩
    · rintro ⟨⟨⟨⟨h1, _⟩, _⟩, h3⟩, h4⟩; exact ⟨⟨h1, h4 trivial⟩, h3⟩
  | false =>
    simp only [Bool.false_eq_true, if_false, Bool.not_false, Bool.true_or]
    constructor
    · rintro ⟨⟨h1, _⟩, h3, h4⟩; exact ⟨⟨⟨⟨h1, h3⟩, h4⟩, trivial⟩, fun h => by cases h⟩
    · rintro ⟨⟨⟨⟨h1, h2⟩, h3⟩, _⟩, _⟩; exact ⟨⟨h1, trivial⟩, h2, h3⟩
def bareM (s : Sz) : Sz :=
  if s.kind = 1 then { kind := s.kind, ty := s.ty, from_ := s.from_, to_ := s.to_, show_ := s.show_ }
  else if s.kind = 2 ∨ s.kind = 3 ∨ s.kind = 4 then { kind := s.kind, id := s.id, ver := s.ver, its := s.its, rem := s.rem && decide (s.kind = 3) }
  else if s.kind = 5 then { kind := s.kind, id := s.id, rea := s.rea }
  else if s.kind = 7 then { kind := s.kind, tok := s.tok }
  else if s.kind = 9 then { kind := s.kind, h := s.h }
  else if s.kind = 10 ∨ s.kind = 11 then { kind := s.kind, tok := s.tok, h := s.h }
  else { kind := s.kind }
def qOk (s : Sz) : Prop := 0 ≤ s.ver ∧ s.ver ≤ 1000000 ∧ s.its.length ≤ 16 ∧ ∀ x ∈ s.its, itOk s.rem x = true
def iqOk (s : Sz) : Prop := wordB s.id = true ∧ qOk s ∧ (s.kind = 5 → wordB s.rea = true ∧ s.ver = 0 ∧ s.its.length = 0) ∧ (s.kind = 4 → s.ver = 0 → s.its.length = 0) ∧ (s.kind = 2 → s.its.length = 0) ∧ (s.kind = 3 → s.its.length = 1)
def presOk (s : Sz) : Prop := (s.ty = ⟨#[]⟩ ∨ typesB s.ty = true) ∧ (s.show_ = ⟨#[]⟩ ∨ showsB s.show_ = true) ∧ (s.ty = ⟨#[]⟩ ∨ s.show_ = ⟨#[]⟩) ∧ addrE s.from_ = true ∧ addrE s.to_ = true
def kindOk (s : Sz) : Prop := (s.kind = 1 → presOk s) ∧ (2 ≤ s.kind ∧ s.kind ≤ 5 → iqOk s) ∧ (s.kind = 7 ∨ s.kind = 10 ∨ s.kind = 11 → wordB s.tok = true)
theorem fits_pres (ty f t : BA) : fitsM [] shPres (dlv [(kType, ty), (kFrom, f), (kTo, t)]) = true ↔ (ty = ⟨#[]⟩ ∨ typesB ty = true) ∧ addrE f = true ∧ addrE t = true := by
  refine Iff.trans (fits_dl (show ([kType, kFrom, kTo] : List BA).Nodup by decide) rfl) ?_
  have pl : ∀ v : BA, (v = ⟨#[]⟩ ∨ placeB v = true) ↔ addrE v = true := fun v => by
    unfold placeB
    by_cases h : v = ⟨#[]⟩
    · subst h; simp [addrE]
    · simp [h]
  constructor
  · rintro ⟨h1, _⟩
    exact ⟨h1 (kType, ty) (by simp), (pl f).1 (h1 (kFrom, f) (by simp)), (pl t).1 (h1 (kTo, t) (by simp))⟩
  · rintro ⟨g1, g2, g3⟩
    refine ⟨fun a h => ?_, fun a h hm => ?_⟩
    · simp only [List.mem_cons, List.not_mem_nil, or_false] at h
      rcases h with rfl | rfl | rfl
      · exact g1
      · exact (pl f).2 g2
      · exact (pl t).2 g3
    · have hm : false = true := hm
      cases hm
theorem not_one {a b : BA} (h : a ≠ b) : a ∉ [b] := fun e => h (List.mem_singleton.1 e)
theorem eqL {α : Type} {a b c : α} (h : a = b) : (a = c) ↔ (b = c) := by rw [h]
theorem pair0 {a b : Sz} : ((a, (0 : Int)) = (b, 0)) ↔ b = a := ⟨fun h => (congrArg Prod.fst h).symm, fun h => by rw [h]⟩
theorem pair3 {b : Sz} {p : Prop} (hp : ¬ p) : ((zS, (3 : Int)) = (b, 0)) ↔ p := ⟨fun h => by simp at h, fun h => absurd h hp⟩
theorem rd_1 (ty id f t sh tk re : BA) (h v : Int) (r : Bool) (xs : List It) :
    readM (drawnM ⟨1, ty, id, f, t, sh, tk, re, h, v, r, xs⟩) = (⟨1, ty, id, f, t, sh, tk, re, h, v, r, xs⟩, 0) ↔ (⟨1, ty, id, f, t, sh, tk, re, h, v, r, xs⟩ : Sz) = ⟨1, ty, ⟨#[]⟩, f, t, sh, ⟨#[]⟩, ⟨#[]⟩, 0, 0, false, []⟩ ∧ presOk ⟨1, ty, id, f, t, sh, tk, re, h, v, r, xs⟩ := by
  have e : drawnM ⟨1, ty, id, f, t, sh, tk, re, h, v, r, xs⟩ = .mk sPresence (dlv [(kType, ty), (kFrom, f), (kTo, t)]) ⟨#[]⟩ (kidsP sh) := by rw [← dl3]; rfl
  have nd : ([kType, kFrom, kTo] : List BA).Nodup := by decide
  have v1 : valueM (dlv [(kType, ty), (kFrom, f), (kTo, t)]) kType = ty := value_dl nd (by simp)
  have v2 : valueM (dlv [(kType, ty), (kFrom, f), (kTo, t)]) kFrom = f := value_dl nd (by simp)
  have v3 : valueM (dlv [(kType, ty), (kFrom, f), (kTo, t)]) kTo = t := value_dl nd (by simp)
  rw [e]
  show presM _ = _ ↔ _
  unfold presM presOk
  simp only [El.ats_mk, El.t_mk, El.ks_mk, v1, v2, v3]
  by_cases hf : fitsM [] shPres (dlv [(kType, ty), (kFrom, f), (kTo, t)]) = true
  · have hf' := (fits_pres ty f t).1 hf
    rw [hf]
    by_cases hs : sh = ⟨#[]⟩
    · subst hs
      exact pair0.trans ⟨fun g => ⟨g, hf'.1, .inl rfl, .inr rfl, hf'.2⟩, fun g => g.1⟩
    · have ek : kidsP sh = [.mk sShow [] sh []] := if_neg hs
      rw [ek]
      simp only [decide_true, Bool.and_self, Bool.and_true, if_true, El.n_mk, El.t_mk, El.ats_mk, El.ks_mk, List.isEmpty_nil, Bool.and_eq_true, decide_eq_true_eq]
      by_cases hc : ty = ⟨#[]⟩ ∧ showsB sh = true
      · rw [if_pos hc]
        exact pair0.trans ⟨fun g => ⟨g, hf'.1, .inr hc.2, .inl hc.1, hf'.2⟩, fun g => g.1⟩
      · rw [if_neg hc]
        exact pair3 fun g => hc ⟨g.2.2.2.1.resolve_right hs, g.2.2.1.resolve_left hs⟩
  · have hf0 : fitsM [] shPres (dlv [(kType, ty), (kFrom, f), (kTo, t)]) = false := by simpa using hf
    rw [hf0]
    exact pair3 fun g => hf ((fits_pres ty f t).2 ⟨g.2.1, g.2.2.2.2⟩)
theorem fits_word2 (w id : BA) (hw : wordB w = true) : fitsM [(kType, wordB), (kId, wordB)] [] (dlv [(kType, w), (kId, id)]) = wordB id := by
  rw [Bool.eq_iff_iff]
  refine Iff.trans (fits_dl (show ([kType, kId] : List BA).Nodup by decide) rfl) ?_
  constructor
  · rintro ⟨h1, h2⟩
    exact (h1 (kId, id) (by simp)).resolve_left (h2 (kId, id) (by simp) rfl)
  · intro g
    refine ⟨fun a h => ?_, fun a h _ => ?_⟩ <;> simp only [List.mem_cons, List.not_mem_nil, or_false] at h <;> rcases h with rfl | rfl
    · exact .inr hw
    · exact .inr g
    · exact word_ne hw
    · exact word_ne g
theorem fits_ver (v : BA) : fitsM [] [(kVer, numB)] (dlv [(kVer, v)]) = true ↔ v = ⟨#[]⟩ ∨ numB v = true := by
  refine Iff.trans (fits_dl (show ([kVer] : List BA).Nodup by decide) rfl) ?_
  constructor
  · rintro ⟨h1, _⟩; exact h1 (kVer, v) (by simp)
  · intro g
    refine ⟨fun a h => ?_, fun a h hm => ?_⟩
    · simp only [List.mem_singleton] at h
      subst h; exact g
    · have hm : false = true := hm
      cases hm
theorem asked_iff (kd : Int) (hk : kd = 2 ∨ kd = 3 ∨ kd = 4) (ty id f t sh tk re : BA) (h v : Int) (r : Bool) (xs : List It) :
    askedM kd id (.mk sQuery (listedA ⟨kd, ty, id, f, t, sh, tk, re, h, v, r, xs⟩) ⟨#[]⟩ (listedK ⟨kd, ty, id, f, t, sh, tk, re, h, v, r, xs⟩)) = some ⟨kd, ty, id, f, t, sh, tk, re, h, v, r, xs⟩ ↔ (⟨kd, ty, id, f, t, sh, tk, re, h, v, r, xs⟩ : Sz) = ⟨kd, ⟨#[]⟩, id, ⟨#[]⟩, ⟨#[]⟩, ⟨#[]⟩, ⟨#[]⟩, ⟨#[]⟩, 0, v, r && decide (kd = 3), xs⟩ ∧ qOk ⟨kd, ty, id, f, t, sh, tk, re, h, v, r, xs⟩ ∧ (if kd = 2 then xs.length = 0 else if kd = 3 then xs.length = 1 else 0 < v) := by
  have hv := ver_iff ⟨kd, ty, id, f, t, sh, tk, re, h, v, r, xs⟩
  have hl : listedK ⟨kd, ty, id, f, t, sh, tk, re, h, v, r, xs⟩ = xs.map (itemE r) := rfl
  have hb : ∀ x ∈ xs, (itF (kd == 3) r x = true ∧ itG r x = x) ↔ itOk r x = true ∧ (r = true → (kd == 3) = true) := fun x _ => it_both _ _ _
  have q : qOk ⟨kd, ty, id, f, t, sh, tk, re, h, v, r, xs⟩ ↔ 0 ≤ v ∧ v ≤ 1000000 ∧ xs.length ≤ 16 ∧ ∀ x ∈ xs, itOk r x = true := Iff.rfl
  have hv : ((verT ⟨kd, ty, id, f, t, sh, tk, re, h, v, r, xs⟩ = ⟨#[]⟩ ∨ numB (verT ⟨kd, ty, id, f, t, sh, tk, re, h, v, r, xs⟩) = true) ∧ numOf (verT ⟨kd, ty, id, f, t, sh, tk, re, h, v, r, xs⟩) = v) ↔ 0 ≤ v ∧ v ≤ 1000000 := hv
  rw [askedM_eq, listedA_dl, hl, items_shape, q]
  generalize verT ⟨kd, ty, id, f, t, sh, tk, re, h, v, r, xs⟩ = V at *
  have va : valueM (dlv [(kVer, V)]) kVer = V := value_dl (show ([kVer] : List BA).Nodup by decide) (by simp)
  rw [va]
  simp only [decide_true, Bool.true_and, Bool.and_true, List.length_map, Bool.and_eq_true, decide_eq_true_eq]
  by_cases h1 : fitsM [] [(kVer, numB)] (dlv [(kVer, V)]) = true ∧ xs.length ≤ 16
  · rw [if_pos h1]
    have hv1 := (fits_ver _).1 h1.1
    by_cases h2 : xs.all (itF (kd == 3) r) = true
    · rw [if_pos h2]
      have h2' := List.all_eq_true.1 h2
      simp only [List.length_map]
      have hcond : (if kd = 2 then xs.length == 0 else if kd = 3 then xs.length == 1 else decide (0 < numOf V)) = true ↔ (if kd = 2 then xs.length = 0 else if kd = 3 then xs.length = 1 else 0 < numOf V) := by
        rcases hk with rfl | rfl | rfl <;> simp
      constructor
      · intro hh
        by_cases hc : (if kd = 2 then xs.length == 0 else if kd = 3 then xs.length == 1 else decide (0 < numOf V)) = true
        · rw [if_pos hc] at hh
          have hc := hcond.1 hc
          simp only [Option.some.injEq, Sz.mk.injEq, true_and] at hh
          obtain ⟨e1, e2, e3, e4, e5, e6, e7, e8, e9, e10⟩ := hh
          have hmap := (map_eq_self (itG r) xs).1 e10
          have hvv := hv.1 ⟨hv1, e8⟩
          have hr : r = (r && decide (kd = 3)) := by
            cases r with
            | false => rfl
            | true =>
              rcases xs with _ | ⟨x, l⟩
              · simp at e9
              · have := ((hb x (by simp)).1 ⟨h2' x (by simp), hmap x (by simp)⟩).2 rfl
                have : kd = 3 := by simpa using this
                rw [this]; rfl
          refine ⟨?_, ⟨hvv.1, hvv.2, h1.2, fun x hx => ((hb x hx).1 ⟨h2' x hx, hmap x hx⟩).1⟩, ?_⟩
          · rw [← hr, ← e1, ← e2, ← e3, ← e4, ← e5, ← e6, ← e7]
          · rw [e8] at hc; exact hc
        · rw [if_neg hc] at hh; cases hh
      · rintro ⟨e1, ⟨g1, g2, g3, g4⟩, g5⟩
        have hnum := (hv.2 ⟨g1, g2⟩).2
        rw [← hnum] at g5
        rw [if_pos (hcond.2 g5)]
        simp only [Sz.mk.injEq, true_and, and_true] at e1
        obtain ⟨e1, e2, e3, e4, e5, e6, e7, e9⟩ := e1
        have hmap : xs.map (itG r) = xs := (map_eq_self _ _).2 fun x hx => ((hb x hx).2 ⟨g4 x hx, fun hr => by rw [hr] at e9; simpa using e9⟩).2
        have hr2 : (r && !xs.isEmpty) = r := by
          cases r with
          | false => rfl
          | true =>
            have h3 : kd = 3 := by simpa using e9
            rw [if_neg (by omega), if_pos h3] at g5
            cases xs with
            | nil => cases g5
            | cons x l => rfl
        rw [hmap, hr2, hnum, e1, e2, e3, e4, e5, e6, e7]
    · rw [if_neg h2]
      constructor
      · intro hh; cases hh
      · rintro ⟨e1, ⟨g1, g2, g3, g4⟩, g5⟩
        refine absurd (List.all_eq_true.2 fun x hx => ((hb x hx).2 ⟨g4 x hx, fun hr => ?_⟩).1) h2
        simp only [Sz.mk.injEq, true_and, and_true] at e1
        have := e1.2.2.2.2.2.2.2
        rw [hr] at this
        simpa using this
  · rw [if_neg h1]
    constructor
    · intro hh; cases hh
    · rintro ⟨_, ⟨g1, g2, g3, _⟩, _⟩
      exact absurd ⟨(fits_ver _).2 (hv.2 ⟨g1, g2⟩).1, g3⟩ h1
theorem drawn_iq (w id : BA) : withL (withL [] kType w) kId id = dlv [(kType, w), (kId, id)] := dl2 _ _ _ _
theorem word_get : wordB sGet = true := by decide
theorem word_set : wordB sSet = true := by decide
theorem word_res : wordB sResult = true := by decide
theorem word_err : wordB sError = true := by decide
theorem nd2 : ([kType, kId] : List BA).Nodup := by decide
theorem rd_q (kd : Int) (w : BA) (hk : kd = 2 ∨ kd = 3 ∨ kd = 4) (hw : wordB w = true) (hkd : kindM w = some kd) (s : Sz) (hs : s.kind = kd) :
    readM (.mk sIq (dlv [(kType, w), (kId, s.id)]) ⟨#[]⟩ [.mk sQuery (listedA s) ⟨#[]⟩ (listedK s)]) = (s, 0) ↔ wordB s.id = true ∧ s = ⟨kd, ⟨#[]⟩, s.id, ⟨#[]⟩, ⟨#[]⟩, ⟨#[]⟩, ⟨#[]⟩, ⟨#[]⟩, 0, s.ver, s.rem && decide (kd = 3), s.its⟩ ∧ qOk s ∧ (if kd = 2 then s.its.length = 0 else if kd = 3 then s.its.length = 1 else 0 < s.ver) := by
  have v1 : valueM (dlv [(kType, w), (kId, s.id)]) kType = w := value_dl nd2 (by simp)
  have v2 : valueM (dlv [(kType, w), (kId, s.id)]) kId = s.id := value_dl nd2 (by simp)
  have h5 : ¬ kd = 5 := by omega
  have a := asked_iff kd hk s.ty s.id s.from_ s.to_ s.show_ s.tok s.rea s.h s.ver s.rem s.its
  have es : (⟨kd, s.ty, s.id, s.from_, s.to_, s.show_, s.tok, s.rea, s.h, s.ver, s.rem, s.its⟩ : Sz) = s := by cases s; subst hs; rfl
  rw [es] at a
  rw [read_iq, iqM_eq sIq _ _ _ kd (by rw [v1]; exact hkd), v2, fits_word2 w s.id hw]
  simp only [decide_true, Bool.and_true, if_neg h5]
  by_cases hid : wordB s.id = true
  · rw [if_pos hid, ← a]
    cases askedM kd s.id (.mk sQuery (listedA s) ⟨#[]⟩ (listedK s)) with
    | none => simp
    | some x => simp [hid]
  · rw [if_neg hid]
    constructor
    · intro hh; simp at hh
    · rintro ⟨g, _⟩; exact absurd g hid
theorem rd_4 (ty id f t sh tk re : BA) (h v : Int) (r : Bool) (xs : List It) (hv : ¬ v > 0) :
    readM (drawnM ⟨4, ty, id, f, t, sh, tk, re, h, v, r, xs⟩) = (⟨4, ty, id, f, t, sh, tk, re, h, v, r, xs⟩, 0) ↔ wordB id = true ∧ (⟨4, ty, id, f, t, sh, tk, re, h, v, r, xs⟩ : Sz) = ⟨4, ⟨#[]⟩, id, ⟨#[]⟩, ⟨#[]⟩, ⟨#[]⟩, ⟨#[]⟩, ⟨#[]⟩, 0, 0, false, []⟩ := by
  have e : drawnM ⟨4, ty, id, f, t, sh, tk, re, h, v, r, xs⟩ = .mk sIq (dlv [(kType, sResult), (kId, id)]) ⟨#[]⟩ [] := by
    rw [← drawn_iq]
    show El.mk sIq _ _ (if v > 0 then _ else _) = _
    rw [if_neg hv]
  have v1 : valueM (dlv [(kType, sResult), (kId, id)]) kType = sResult := value_dl nd2 (by simp)
  have v2 : valueM (dlv [(kType, sResult), (kId, id)]) kId = id := value_dl nd2 (by simp)
  rw [e, read_iq, iqM_eq sIq _ _ _ 4 (by rw [v1]; rfl), v2, fits_word2 sResult id word_res]
  simp only [decide_true, Bool.and_true, if_true]
  by_cases hid : wordB id = true
  · rw [if_pos hid]; simp [hid, eq_comm]
  · rw [if_neg hid]
    constructor
    · intro hh; simp at hh
    · rintro ⟨g, _⟩; exact absurd g hid
theorem rd_5 (ty id f t sh tk re : BA) (h v : Int) (r : Bool) (xs : List It) :
    readM (drawnM ⟨5, ty, id, f, t, sh, tk, re, h, v, r, xs⟩) = (⟨5, ty, id, f, t, sh, tk, re, h, v, r, xs⟩, 0) ↔ (wordB id = true ∧ wordB re = true) ∧ (⟨5, ty, id, f, t, sh, tk, re, h, v, r, xs⟩ : Sz) = ⟨5, ⟨#[]⟩, id, ⟨#[]⟩, ⟨#[]⟩, ⟨#[]⟩, ⟨#[]⟩, re, 0, 0, false, []⟩ := by
  have e : drawnM ⟨5, ty, id, f, t, sh, tk, re, h, v, r, xs⟩ = .mk sIq (dlv [(kType, sError), (kId, id)]) ⟨#[]⟩ [.mk sError [] re []] := by rw [← drawn_iq]; rfl
  have v1 : valueM (dlv [(kType, sError), (kId, id)]) kType = sError := value_dl nd2 (by simp)
  have v2 : valueM (dlv [(kType, sError), (kId, id)]) kId = id := value_dl nd2 (by simp)
  rw [e, read_iq, iqM_eq sIq _ _ _ 5 (by rw [v1]; rfl), v2, fits_word2 sError id word_err]
  simp only [decide_true, Bool.and_true, if_true, Bool.true_and, El.n_mk, El.t_mk, El.ats_mk, El.ks_mk, List.isEmpty_nil]
  by_cases hid : wordB id = true
  · rw [if_pos hid]
    by_cases hr : wordB re = true
    · rw [if_pos hr]; simp [hid, hr, eq_comm]
    · rw [if_neg hr]
      constructor
      · intro hh; simp at hh
      · rintro ⟨g, _⟩; exact absurd g.2 hr
  · rw [if_neg hid]
    constructor
    · intro hh; simp at hh
    · rintro ⟨g, _⟩; exact absurd g.1 hid
theorem fits_none : fitsM [] [] [] = true := by decide
theorem rd_0 (kd : Int) (n : BA) (hp : plainsM n = some (kd, [])) (h1 : n ≠ sPresence) (h2 : n ≠ sIq) (h7 : kd ≠ 7) (s : Sz) : readM (.mk n [] ⟨#[]⟩ []) = (s, 0) ↔ s = { kind := kd } := by
  have e : readM (.mk n [] ⟨#[]⟩ []) = simpleM kd [] (.mk n [] ⟨#[]⟩ []) := by
    unfold readM; rw [El.n_mk, if_neg h1, if_neg h2, hp]
  have v : ∀ k, valueM [] k = ⟨#[]⟩ := fun k => rfl
  rw [e]
  unfold simpleM
  simp only [El.ats_mk, El.t_mk, El.ks_mk, fits_none, v, numOf_nil, if_neg h7, decide_true, Bool.true_and, List.isEmpty_nil, if_true]
  simp [eq_comm]
theorem fits_id (v : BA) : fitsM shId [] (dlv [(kId, v)]) = wordB v := by
  rw [Bool.eq_iff_iff]
  refine Iff.trans (fits_dl (show ([kId] : List BA).Nodup by decide) rfl) ?_
  constructor
  · rintro ⟨h1, h2⟩
    exact (h1 (kId, v) (by simp)).resolve_left (h2 (kId, v) (by simp) rfl)
  · intro g
    refine ⟨fun a h => ?_, fun a h _ => ?_⟩ <;> simp only [List.mem_singleton] at h <;> subst h
    · exact .inr g
    · exact word_ne g
theorem fits_h (n : Nat) (hn : n ≤ 4294967295) : fitsM shH [] (dlv [(kH, decS n)]) = true := by
  refine (fits_dl (kvs := [(kH, decS n)]) (show ([kH] : List BA).Nodup by decide) rfl).2 ?_
  refine ⟨fun a h => ?_, fun a h _ => ?_⟩ <;> simp only [List.mem_singleton] at h <;> subst h
  · exact .inr (cnt_decS n hn)
  · exact dec_ne n
theorem fits_both (n : Nat) (hn : n ≤ 4294967295) (v : BA) : fitsM shBoth [] (dlv [(kH, decS n), (kPrev, v)]) = wordB v := by
  rw [Bool.eq_iff_iff]
  refine Iff.trans (fits_dl (show ([kH, kPrev] : List BA).Nodup by decide) rfl) ?_
  constructor
  · rintro ⟨h1, h2⟩
    exact (h1 (kPrev, v) (by simp)).resolve_left (h2 (kPrev, v) (by simp) rfl)
  · intro g
    refine ⟨fun a h => ?_, fun a h _ => ?_⟩ <;> simp only [List.mem_cons, List.not_mem_nil, or_false] at h <;> rcases h with rfl | rfl
    · exact .inr (cnt_decS n hn)
    · exact .inr g
    · exact dec_ne n
    · exact word_ne g
theorem rd_7 (s : Sz) (v : BA) : readM (.mk sEnabled (dlv [(kId, v)]) ⟨#[]⟩ []) = (s, 0) ↔ wordB v = true ∧ s = { kind := 7, tok := v } := by
  have nd : ([kId] : List BA).Nodup := by decide
  have e : ∀ l, readM (.mk sEnabled l ⟨#[]⟩ []) = simpleM 7 shId (.mk sEnabled l ⟨#[]⟩ []) := fun l => rfl
  have v1 : valueM (dlv [(kId, v)]) kId = v := value_dl nd (by simp)
  have v2 : valueM (dlv [(kId, v)]) kH = ⟨#[]⟩ := value_none (not_one (show kH ≠ kId by decide))
  rw [e]
  unfold simpleM
  simp only [El.ats_mk, El.t_mk, El.ks_mk, fits_id, v1, v2, numOf_nil, decide_true, Bool.and_true, List.isEmpty_nil, if_true]
  by_cases hid : wordB v = true
  · rw [if_pos hid]; simp [hid, eq_comm]
  · rw [if_neg hid]
    constructor
    · intro hh; simp at hh
    · rintro ⟨g, _⟩; exact absurd g hid
theorem rd_9 (s : Sz) (h : Int) (hh : 0 ≤ h ∧ h ≤ 4294967295) : readM (.mk sA (dlv [(kH, decS h.toNat)]) ⟨#[]⟩ []) = (s, 0) ↔ s = { kind := 9, h := h } := by
  have nd : ([kH] : List BA).Nodup := by decide
  have e : ∀ l, readM (.mk sA l ⟨#[]⟩ []) = simpleM 9 shH (.mk sA l ⟨#[]⟩ []) := fun l => rfl
  have hn : h.toNat ≤ 4294967295 := by omega
  have v1 : valueM (dlv [(kH, decS h.toNat)]) kH = decS h.toNat := value_dl nd (by simp)
  have v2 : valueM (dlv [(kH, decS h.toNat)]) kPrev = ⟨#[]⟩ := value_none (not_one (show kPrev ≠ kH by decide))
  have v3 : numOf (decS h.toNat) = h := by rw [num_decS _ hn]; omega
  rw [e]
  unfold simpleM
  simp only [El.ats_mk, El.t_mk, El.ks_mk, fits_h _ hn, v1, v2, v3, decide_true, Bool.and_true, Bool.true_and, List.isEmpty_nil, if_true]
  simp [eq_comm]
theorem rd_10 (kd : Int) (n : BA) (hp : plainsM n = some (kd, shBoth)) (h1 : n ≠ sPresence) (h2 : n ≠ sIq) (h7 : kd ≠ 7) (s : Sz) (h : Int) (hh : 0 ≤ h ∧ h ≤ 4294967295) (v : BA) : readM (.mk n (dlv [(kH, decS h.toNat), (kPrev, v)]) ⟨#[]⟩ []) = (s, 0) ↔ wordB v = true ∧ s = { kind := kd, h := h, tok := v } := by
  have nd : ([kH, kPrev] : List BA).Nodup := by decide
  have e : ∀ l, readM (.mk n l ⟨#[]⟩ []) = simpleM kd shBoth (.mk n l ⟨#[]⟩ []) := fun l => by
    unfold readM; rw [El.n_mk, if_neg h1, if_neg h2, hp]
  have hn : h.toNat ≤ 4294967295 := by omega
  have v1 : valueM (dlv [(kH, decS h.toNat), (kPrev, v)]) kH = decS h.toNat := value_dl nd (by simp)
  have v2 : valueM (dlv [(kH, decS h.toNat), (kPrev, v)]) kPrev = v := value_dl nd (by simp)
  have v3 : numOf (decS h.toNat) = h := by rw [num_decS _ hn]; omega
  rw [e]
  unfold simpleM
  simp only [El.ats_mk, El.t_mk, El.ks_mk, fits_both _ hn, v1, v2, v3, if_neg h7, decide_true, Bool.and_true, List.isEmpty_nil, if_true]
  by_cases hid : wordB v = true
  · rw [if_pos hid]; simp [hid, eq_comm]
  · rw [if_neg hid]
    constructor
    · intro hh; simp at hh
    · rintro ⟨g, _⟩; exact absurd g hid
theorem read_drawn (s : Sz) (hh : 0 ≤ s.h ∧ s.h ≤ 4294967295) (hk : 1 ≤ s.kind ∧ s.kind ≤ 14) : readM (drawnM s) = (s, 0) ↔ s = bareM s ∧ kindOk s := by
  obtain ⟨kind, ty, id, f, t, sh, tk, re, h, v, r, xs⟩ := s
  have hh : 0 ≤ h ∧ h ≤ 4294967295 := hh
  have hk : kind = 1 ∨ kind = 2 ∨ kind = 3 ∨ kind = 4 ∨ kind = 5 ∨ kind = 6 ∨ kind = 7 ∨ kind = 8 ∨ kind = 9 ∨ kind = 10 ∨ kind = 11 ∨ kind = 12 ∨ kind = 13 ∨ kind = 14 := by
    have := hk.1; have := hk.2; simp only at *; omega
  rcases hk with rfl | rfl | rfl | rfl | rfl | rfl | rfl | rfl | rfl | rfl | rfl | rfl | rfl | rfl
  · rw [rd_1]
    refine and_congr Iff.rfl ⟨fun g => ⟨fun _ => g, fun h => absurd h (by simp), fun h => absurd h (by simp)⟩, fun g => g.1 rfl⟩
  · have e : drawnM ⟨2, ty, id, f, t, sh, tk, re, h, v, r, xs⟩ = .mk sIq (dlv [(kType, sGet), (kId, id)]) ⟨#[]⟩ [.mk sQuery (listedA ⟨2, ty, id, f, t, sh, tk, re, h, v, r, xs⟩) ⟨#[]⟩ (listedK ⟨2, ty, id, f, t, sh, tk, re, h, v, r, xs⟩)] := by rw [← drawn_iq]; rfl
    rw [e, rd_q 2 sGet (by omega) word_get rfl ⟨2, ty, id, f, t, sh, tk, re, h, v, r, xs⟩ rfl]
    constructor
    · rintro ⟨g1, g2, g3, g4⟩
      exact ⟨g2, fun h => absurd h (by simp), fun _ => ⟨g1, g3, fun h => absurd h (by simp), fun h => absurd h (by simp), fun _ => g4, fun h => absurd h (by simp)⟩, fun h => absurd h (by simp)⟩
    · rintro ⟨g2, _, g, _⟩
      obtain ⟨g1, g3, _, _, g4, _⟩ := g (by simp)
      exact ⟨g1, g2, g3, g4 rfl⟩
  · have e : drawnM ⟨3, ty, id, f, t, sh, tk, re, h, v, r, xs⟩ = .mk sIq (dlv [(kType, sSet), (kId, id)]) ⟨#[]⟩ [.mk sQuery (listedA ⟨3, ty, id, f, t, sh, tk, re, h, v, r, xs⟩) ⟨#[]⟩ (listedK ⟨3, ty, id, f, t, sh, tk, re, h, v, r, xs⟩)] := by rw [← drawn_iq]; rfl
    rw [e, rd_q 3 sSet (by omega) word_set rfl ⟨3, ty, id, f, t, sh, tk, re, h, v, r, xs⟩ rfl]
    constructor
    · rintro ⟨g1, g2, g3, g4⟩
      exact ⟨g2, fun h => absurd h (by simp), fun _ => ⟨g1, g3, fun h => absurd h (by simp), fun h => absurd h (by simp), fun h => absurd h (by simp), fun _ => g4⟩, fun h => absurd h (by simp)⟩
    · rintro ⟨g2, _, g, _⟩
      obtain ⟨g1, g3, _, _, _, g4⟩ := g (by simp)
      exact ⟨g1, g2, g3, g4 rfl⟩
  · by_cases hv : v > 0
    · have e : drawnM ⟨4, ty, id, f, t, sh, tk, re, h, v, r, xs⟩ = .mk sIq (dlv [(kType, sResult), (kId, id)]) ⟨#[]⟩ [.mk sQuery (listedA ⟨4, ty, id, f, t, sh, tk, re, h, v, r, xs⟩) ⟨#[]⟩ (listedK ⟨4, ty, id, f, t, sh, tk, re, h, v, r, xs⟩)] := by
        rw [← drawn_iq]
        show El.mk sIq _ _ (if v > 0 then _ else _) = _
        rw [if_pos hv]
      rw [e, rd_q 4 sResult (by omega) word_res rfl ⟨4, ty, id, f, t, sh, tk, re, h, v, r, xs⟩ rfl]
      constructor
      · rintro ⟨g1, g2, g3, g4⟩
        exact ⟨g2, fun h => absurd h (by simp), fun _ => ⟨g1, g3, fun h => absurd h (by simp), fun _ h => absurd h (by show ¬ v = 0; omega), fun h => absurd h (by simp), fun h => absurd h (by simp)⟩, fun h => absurd h (by simp)⟩
      · rintro ⟨g2, _, g, _⟩
        obtain ⟨g1, g3, _⟩ := g (by simp)
        exact ⟨g1, g2, g3, hv⟩
    · rw [rd_4 _ _ _ _ _ _ _ _ _ _ _ hv]
      constructor
      · rintro ⟨g1, g2⟩
        simp only [Sz.mk.injEq, true_and] at g2
        obtain ⟨rfl, rfl, rfl, rfl, rfl, rfl, rfl, rfl, rfl, rfl⟩ := g2
        exact ⟨rfl, fun h => absurd h (by simp), fun _ => ⟨g1, ⟨by simp, by simp, by simp, fun x hx => by cases hx⟩, fun h => absurd h (by simp), fun _ _ => rfl, fun h => absurd h (by simp), fun h => absurd h (by simp)⟩, fun h => absurd h (by simp)⟩
      · rintro ⟨g2, _, g, _⟩
        obtain ⟨g1, ⟨g3, _⟩, _, g4, _⟩ := g (by simp)
        have g3 : 0 ≤ v := g3
        have hv0 : v = 0 := by omega
        have hx : xs = [] := List.eq_nil_of_length_eq_zero (g4 rfl hv0)
        subst hv0 hx
        refine ⟨g1, g2.trans ?_⟩
        show (⟨4, _, _, _, _, _, _, _, _, _, r && decide ((4 : Int) = 3), _⟩ : Sz) = _
        simp
  · rw [rd_5]
    constructor
    · rintro ⟨⟨g1, g3⟩, g2⟩
      simp only [Sz.mk.injEq, true_and, and_true] at g2
      obtain ⟨rfl, rfl, rfl, rfl, rfl, rfl, rfl, rfl, rfl⟩ := g2
      exact ⟨rfl, fun h => absurd h (by simp), fun _ => ⟨g1, ⟨by simp, by simp, by simp, fun x hx => by cases hx⟩, fun _ => ⟨g3, rfl, rfl⟩, fun h => absurd h (by simp), fun h => absurd h (by simp), fun h => absurd h (by simp)⟩, fun h => absurd h (by simp)⟩
    · rintro ⟨g2, _, g, _⟩
      obtain ⟨g1, _, g4, _⟩ := g (by simp)
      exact ⟨⟨g1, (g4 rfl).1⟩, g2⟩
  · rw [show drawnM ⟨6, ty, id, f, t, sh, tk, re, h, v, r, xs⟩ = .mk sEnable [] ⟨#[]⟩ [] from rfl, rd_0 6 sEnable rfl (by decide) (by decide) (by decide)]
    exact ⟨fun g => ⟨g, fun h => absurd h (by simp), fun h => absurd h (by simp), fun h => absurd h (by simp)⟩, fun g => g.1⟩
  · rw [show drawnM ⟨7, ty, id, f, t, sh, tk, re, h, v, r, xs⟩ = .mk sEnabled (dlv [(kId, tk)]) ⟨#[]⟩ [] by rw [← dl1]; rfl, rd_7]
    exact ⟨fun g => ⟨g.2, fun h => absurd h (by simp), fun h => absurd h (by simp), fun _ => g.1⟩, fun g => ⟨g.2.2.2 (by simp), g.1⟩⟩
  · rw [show drawnM ⟨8, ty, id, f, t, sh, tk, re, h, v, r, xs⟩ = .mk sR [] ⟨#[]⟩ [] from rfl, rd_0 8 sR rfl (by decide) (by decide) (by decide)]
    exact ⟨fun g => ⟨g, fun h => absurd h (by simp), fun h => absurd h (by simp), fun h => absurd h (by simp)⟩, fun g => g.1⟩
  · have e : withL [] kH (decS h.toNat) = dlv [(kH, decS h.toNat)] := dl1 _ _
    rw [show drawnM ⟨9, ty, id, f, t, sh, tk, re, h, v, r, xs⟩ = .mk sA (withL [] kH (decS h.toNat)) ⟨#[]⟩ [] from rfl, e, rd_9 _ h hh]
    exact ⟨fun g => ⟨g, fun h => absurd h (by simp), fun h => absurd h (by simp), fun h => absurd h (by simp)⟩, fun g => g.1⟩
  · have e : withL (withL [] kH (decS h.toNat)) kPrev tk = dlv [(kH, decS h.toNat), (kPrev, tk)] := dl2 _ _ _ _
    rw [show drawnM ⟨10, ty, id, f, t, sh, tk, re, h, v, r, xs⟩ = .mk sResume (withL (withL [] kH (decS h.toNat)) kPrev tk) ⟨#[]⟩ [] from rfl, e, rd_10 10 sResume rfl (by decide) (by decide) (by decide) _ h hh]
    exact ⟨fun g => ⟨g.2, fun h => absurd h (by simp), fun h => absurd h (by simp), fun _ => g.1⟩, fun g => ⟨g.2.2.2 (by simp), g.1⟩⟩
  · have e : withL (withL [] kH (decS h.toNat)) kPrev tk = dlv [(kH, decS h.toNat), (kPrev, tk)] := dl2 _ _ _ _
    rw [show drawnM ⟨11, ty, id, f, t, sh, tk, re, h, v, r, xs⟩ = .mk sResumed (withL (withL [] kH (decS h.toNat)) kPrev tk) ⟨#[]⟩ [] from rfl, e, rd_10 11 sResumed rfl (by decide) (by decide) (by decide) _ h hh]
    exact ⟨fun g => ⟨g.2, fun h => absurd h (by simp), fun h => absurd h (by simp), fun _ => g.1⟩, fun g => ⟨g.2.2.2 (by simp), g.1⟩⟩
  · rw [show drawnM ⟨12, ty, id, f, t, sh, tk, re, h, v, r, xs⟩ = .mk sFailed [] ⟨#[]⟩ [] from rfl, rd_0 12 sFailed rfl (by decide) (by decide) (by decide)]
    exact ⟨fun g => ⟨g, fun h => absurd h (by simp), fun h => absurd h (by simp), fun h => absurd h (by simp)⟩, fun g => g.1⟩
  · rw [show drawnM ⟨13, ty, id, f, t, sh, tk, re, h, v, r, xs⟩ = .mk sActive [] ⟨#[]⟩ [] from rfl, rd_0 13 sActive rfl (by decide) (by decide) (by decide)]
    exact ⟨fun g => ⟨g, fun h => absurd h (by simp), fun h => absurd h (by simp), fun h => absurd h (by simp)⟩, fun g => g.1⟩
  · rw [show drawnM ⟨14, ty, id, f, t, sh, tk, re, h, v, r, xs⟩ = .mk sInactive [] ⟨#[]⟩ [] from rfl, rd_0 14 sInactive rfl (by decide) (by decide) (by decide)]
    exact ⟨fun g => ⟨g, fun h => absurd h (by simp), fun h => absurd h (by simp), fun h => absurd h (by simp)⟩, fun g => g.1⟩
theorem write_yes {s : Sz} (hh : 0 ≤ s.h ∧ s.h ≤ 4294967295) (hk : 1 ≤ s.kind ∧ s.kind ≤ 14) (hb : s = bareM s) (ho : kindOk s) : writeM s = (drawnM s, 0) := by
  have h := (read_drawn s hh hk).2 ⟨hb, ho⟩
  unfold writeM
  rw [h]
  exact if_pos ⟨hk.1, hk.2, rfl, rfl⟩
theorem write_no {s : Sz} (hh : 0 ≤ s.h ∧ s.h ≤ 4294967295) (hn : ¬ ((1 ≤ s.kind ∧ s.kind ≤ 14) ∧ s = bareM s ∧ kindOk s)) : writeM s = (zE, 1) := by
  unfold writeM
  refine if_neg fun ⟨h1, h2, h3, h4⟩ => hn ⟨⟨h1, h2⟩, (read_drawn s hh ⟨h1, h2⟩).1 ?_⟩
  exact Prod.ext h4 h3
end Go.Proofs.YtfdmmgiefhhnoaaGreatDoor
